/- Texts. -/
import Derived.Test.YtphjagkehiklkaaGreatDoorWK40
set_option linter.unusedVariables false
set_option linter.unusedSimpArgs false
set_option maxRecDepth 100000
set_option maxHeartbeats 8000000
namespace Go.Proofs.YtphjagkehiklkaaGreatDoor
open Go.RowKit Go.Shelf
theorem LI(au av:List Ent)(s1 s2:Nat)(w:World)(cn:ft w s1 au)(co:ft w s2 av)(aX:au.length≤60000)(aY:av.length≤60000)(a0:jA au)(a1:jA av):
  Calls Tryz.prog 96 #[.pointer (some ⟨s1,0,none⟩), .pointer (some ⟨s2,0,none⟩)] w (LD w (Ky au av)):=by
 obtain⟨U,M,N,Q,ap⟩:=info_parts pc;have ad:Hid (¬1*U.size>2^24):=by simp only[Hid];rw[Q];omega
 have ae:Hid (¬1*U.size=0):=by simp only[Hid];rw[Q];omega
 have ai:Hid (∀c:CV,Instr.fill (fun i=>some (i*U.size,U.size)) ((Array.range (1*U.size)).map (di.cells[· %di.cells.size]!)) [(0, .agg c.cells.toArray)]=some c.cells.toArray):=fun c=>by rw[Q];exact mc _ _ rfl (by simp[di,Value.cells])
 obtain⟨bi,⟨Z,bF,bf⟩,a9⟩:=cn;obtain⟨bk,⟨aw,bG,bg⟩,ba⟩:=co;have bC:Hid (w.cell? ⟨s1,0,none⟩=some (.pointer Z)):=bF.cell 0;have bE:Hid (w.cell? ⟨s2,0,none⟩=some (.pointer aw)):=bG.cell 0;have bA:Hid (AJ w Z):=bf.ptr;have bB:Hid (AJ w aw):=bg.ptr;have aS:Hid (Ei w s1 bi):=⟨Z,bF,bf⟩;have aT:Hid (Ei w s2 bk):=⟨aw,bG,bg⟩;have bq:=af a0;have br:=af a1;have bw:Hid (bi.size=au.length∧au.length≤60000):=⟨by rw[←bi.cM,a9],aX⟩;have bx:Hid (bk.size=av.length∧av.length≤60000):=⟨by rw[←bk.cM,ba],aY⟩;have aB:=af a9;have aE:=af ba;have aR:Hid ((Ky au av).length≤120000):=by have:=KE au av;simp only[Hid];omega
 obtain⟨D,ak⟩:∃D,Ky au av=D:=⟨_,rfl⟩;have aO:=af ak;rw[ak]at aR;rw[ak];have aV:Hid (Z=aw→D=[]):=fun h=>by
  rw[←ak];subst h;rw[←a9,←ba,bf.uniq bg];exact KU _
 clear ak bF bf bG bg a9 ba a0 a1 aX aY;go_enter Tryz.func96,Tryz.ntmps96;by_cases bd:Z=aw
 ·have bv:=af (aV.out bd);subst bd;rw[bv.out];go_upto_region 1 with fail;refine aC 17 ag [Is (.pointer (some ⟨s1,0,none⟩)),Is (.bool false),Is (.bool false),Is (.pointer (some ⟨s2,0,none⟩)),Is (.bool false),Is (.bool false),Is (.bool false),Is (.pointer (some ⟨s1,0,none⟩)),Is (.pointer (some ⟨s1,0,none⟩)),Is (.pointer (some ⟨s1,0,none⟩)),Is (.pointer Z),Is (.pointer (some ⟨s2,0,none⟩)),Is (.pointer (some ⟨s2,0,none⟩)),Is (.pointer (some ⟨s2,0,none⟩)),Is (.pointer Z),Is (.bool true),Is (.bool true)] [] (fun _=>True) (fun _ _=>false) (by kernel_rfl) (by kernel_rfl) (by kernel_rfl) (by kernel_rfl) ⟨Is.ah _,Is.ah _,Is.ah _,Is.ah _,Is.ah _,Is.ah _,Is.ah _,Is.ah _,Is.ah _,Is.ah _,Is.ah _,Is.ah _,Is.ah _,Is.ah _,Is.ah _,Is.ah _,Is.ah _,trivial⟩ trivial (fun _ _ _ _ h=>h) trivial ?_ ?_
  ·refine⟨?zC9,?ZH,?ZI,?ZJ,?ZK,?ZL,?ZM,?ZN,?ZO,?ZP,?zA,?zB,?zC,?zD,?zE,?zF,?zG,trivial⟩;all_goals intro u w' d l j n m k
   all_goals simp only[bH,bI,bJ,bK,ay,Act.put,bL,bM,bN,Nat.reduceAdd,Nat.zero_add]
   case' ZH=>simp only[show u 0=_ from j 0]
   case' ZI=>simp only[show u 1=_ from j 1]
   case' ZJ=>simp only[show u 2=_ from j 2]
   case' ZK=>simp only[show u 3=_ from j 3,show u 2=_ from j 2]
   case' ZL=>simp only[show u 2=_ from j 2,show u 4=_ from j 4]
   case' ZM=>simp only[show u 5=_ from j 5]
   case' ZN=>simp only[show u 6=_ from j 6]
   case' ZO=>simp only[show u 7=_ from j 7,show u 6=_ from j 6]
   case' ZP=>simp only[show u 8=_ from j 8,show u 6=_ from j 6]
   case zA=>
    simp only[show u 9=_ from j 9,show u 6=_ from j 6];clear j n m k;refine aj ?_;have q:=l.an bC.out (fun x=>x);go_simp;exact⟨_,rfl,al⟩
   case' zB=>simp only[show u 6=_ from j 6]
   case' zC=>simp only[show u 11=_ from j 11,show u 6=_ from j 6]
   case' zD=>simp only[show u 12=_ from j 12,show u 6=_ from j 6]
   case zE=>
    simp only[show u 13=_ from j 13,show u 6=_ from j 6];clear j n m k;refine aj ?_;have q:=l.an bE.out (fun x=>x);go_simp;exact⟨_,rfl,al⟩
   case zF=>
    simp only[show u 10=_ from j 10,show u 14=_ from j 14,show u 6=_ from j 6];clear j n m k;refine aj ?_;have q:=Ma Z Z w' (bA.out.ar l) (bB.out.ar l) true (decide_eq_true rfl);go_simp;exact⟨_,rfl,al⟩
   case' zG=>simp only[show u 6=_ from j 6,show u 15=_ from j 15]
   all_goals
    clear j n m k;refine aj ?_;go_simp;exact⟨_,rfl,al⟩
  ·intro u w' l j k;have z:u 16=_:=j 16 (by omega);clear j k;simp only[bH,bI,bJ,bK,ay,Act.put,bL,bM,bN,dD,dE,Nat.reduceAdd,Nat.zero_add,z];have o:=af l;clear l z;go_wp2;go_ret;exact⟨_,rfl,(bW.start ⟨rfl, .inl ⟨rfl,rfl⟩⟩:bW 119 7 w (.slice none 0 0) w (.slice none 0 0) 0 []).behind o.out⟩
 ·have cg:decide (Z=aw)=false:=decide_eq_false bd;go_upto_region 1 with fail;refine aC 17 ag [Is (.pointer (some ⟨s1,0,none⟩)),Is (.bool false),Is (.bool false),Is (.pointer (some ⟨s2,0,none⟩)),Is (.bool false),Is (.bool false),Is (.bool false),Is (.pointer (some ⟨s1,0,none⟩)),Is (.pointer (some ⟨s1,0,none⟩)),Is (.pointer (some ⟨s1,0,none⟩)),Is (.pointer Z),Is (.pointer (some ⟨s2,0,none⟩)),Is (.pointer (some ⟨s2,0,none⟩)),Is (.pointer (some ⟨s2,0,none⟩)),Is (.pointer aw),Is (.bool false),Is (.bool false)] [] (fun _=>True) (fun _ _=>false) (by kernel_rfl) (by kernel_rfl) (by kernel_rfl) (by kernel_rfl) ⟨Is.ah _,Is.ah _,Is.ah _,Is.ah _,Is.ah _,Is.ah _,Is.ah _,Is.ah _,Is.ah _,Is.ah _,Is.ah _,Is.ah _,Is.ah _,Is.ah _,Is.ah _,Is.ah _,Is.ah _,trivial⟩ trivial (fun _ _ _ _ h=>h) trivial ?_ ?_
  ·refine⟨?zCA,?ZQ,?ZR,?ZS,?ZT,?ZU,?ZV,?ZW,?ZX,?ZY,?zH,?zI,?zJ,?zK,?zL,?zM,?zN,trivial⟩;all_goals intro u w' d l j n m k
   all_goals simp only[bH,bI,bJ,bK,ay,Act.put,bL,bM,bN,Nat.reduceAdd,Nat.zero_add]
   case' ZQ=>simp only[show u 0=_ from j 0]
   case' ZR=>simp only[show u 1=_ from j 1]
   case' ZS=>simp only[show u 2=_ from j 2]
   case' ZT=>simp only[show u 3=_ from j 3,show u 2=_ from j 2]
   case' ZU=>simp only[show u 2=_ from j 2,show u 4=_ from j 4]
   case' ZV=>simp only[show u 5=_ from j 5]
   case' ZW=>simp only[show u 6=_ from j 6]
   case' ZX=>simp only[show u 7=_ from j 7,show u 6=_ from j 6]
   case' ZY=>simp only[show u 8=_ from j 8,show u 6=_ from j 6]
   case zH=>
    simp only[show u 9=_ from j 9,show u 6=_ from j 6];clear j n m k;refine aj ?_;have q:=l.an bC.out (fun x=>x);go_simp;exact⟨_,rfl,al⟩
   case' zI=>simp only[show u 6=_ from j 6]
   case' zJ=>simp only[show u 11=_ from j 11,show u 6=_ from j 6]
   case' zK=>simp only[show u 12=_ from j 12,show u 6=_ from j 6]
   case zL=>
    simp only[show u 13=_ from j 13,show u 6=_ from j 6];clear j n m k;refine aj ?_;have q:=l.an bE.out (fun x=>x);go_simp;exact⟨_,rfl,al⟩
   case zM=>
    simp only[show u 10=_ from j 10,show u 14=_ from j 14,show u 6=_ from j 6];clear j n m k;refine aj ?_;have q:=Ma Z aw w' (bA.out.ar l) (bB.out.ar l) false cg;go_simp;exact⟨_,rfl,al⟩
   case' zN=>simp only[show u 6=_ from j 6,show u 15=_ from j 15]
   all_goals
    clear j n m k;refine aj ?_;go_simp;exact⟨_,rfl,al⟩
  ·intro u w' l j k;have z:u 16=_:=j 16 (by omega);clear j k;simp only[bH,bI,bJ,bK,ay,Act.put,bL,bM,bN,dD,dE,Nat.reduceAdd,Nat.zero_add,z];have o:=af l;clear l z;have a7:=af o.out;clear o aV bC bE cg bd bA bB;go_wp2_with fail;refine(Ld s1 bi _ (aS.out.ar a7.out) (by have:=bw.out;omega)).mono ?_;rintro e w2⟨v6,b5,rfl,g6,cc,n6⟩;have aM:=af g6;have bn:=af cc;have b7:=af n6;clear g6 cc n6;go_wp2_with fail;refine(Ld s2 bk _ ((aT.out.ar a7.out).ar aM.out.ar) (by have:=bx.out;omega)).mono ?_;rintro e w1⟨cC,b6,rfl,g7,bO,ce⟩;obtain⟨b0,m6,ca,rfl,bo,b2⟩:=aU aM.out.own;obtain⟨b1,m7,cb,rfl,bp,b3⟩:=aU g7.own;have bU:=bo.out;have bV:=bp.out;have ck:=af ((a7.out.trans aM.out.ar).trans g7.ar);have b8:Hid (PL w1 b0 m6 ca b5):=PL.of (aQ aM.out.own g7.ar (fun _ _ x=>x)) bo.out b2.out (fun x cr=>(b7.out x cr).ar g7.ar) (bn.out.trans aB.out) bq.out;have b9:Hid (PL w1 b1 m7 cb b6):=PL.of g7.own bp.out b3.out ce (bO.trans aE.out) br.out;have aN:Hid (Mf w1 D (.slice none 0 0) (.slice b0 m6 ca) (.slice b1 m7 cb) w1):=⟨_,_,_,b5,_,_,_,b6,[],rfl,rfl,b8.out,b9.out,by rw[←aO.out,←aB.out,←aE.out,←bn.out,←bO];rfl,bW.start ⟨rfl, .inl ⟨rfl,rfl⟩⟩⟩;clear aO g7 bO ce bU bV bo bp b2 b3 b8 b9 aM bn b7 aB aE aS aT a7;go_wp2;go_loopw[5,6,7](fun cs a b wr=>Mf w1 D cs a b wr)(fun _ a b _=>KL a+KL b);case atStart=>exact aN.out
   case round=>
    obtain⟨A,P,X,ra,B,K,O,rb,done,rfl,rfl,am,ao,bQ,bb⟩:=hrel;have ab:=af am;have V:=af ao;have s:=af bb;obtain⟨bl,cu,c5,rfl,b4,_⟩:=aU bb.own;obtain rfl:cu=done.length:=b4.out;have aA:=af bQ;have aL:Hid (done.length≤120000):=by
     have h:=aR.out;rw[←bQ,bh]at h;simp only[Hid];omega
    have T:Hid (Fr ag w1 wr):=bb.ar;have bz:=am.len;have aW:=ao.len;have ci:=am.cap;have cj:=ao.cap;have cl:X≤9223372036854775807:=am.aP;have cm:O≤9223372036854775807:=ao.aP;clear am ao bb bQ b4 aN;cases ra with
    |nil=>
     obtain rfl:P=0:=bz.symm;cases rb with
     |nil=>
      obtain rfl:K=0:=aW.symm;have aZ:done=D:=by
       have h:=aA.out;rw[List.map_nil,Ky,List.append_nil]at h;exact h
      go_wp2;go_ret;rw[←aZ];exact⟨_,rfl,s.out.ahead ck.out⟩
     |cons y rb=>
      obtain⟨p,rfl,a2,aI⟩:=V.out.head;have t:Hid (wr.cell? p=some (.pointer (some ⟨y.g,0,none⟩))):=T.out.an a2 (fun x=>x);have C:Hid (Mid wr y.g y.nm y.v):=(V.out.at_ y (by simp)).lA.ar T.out;have W:Hid (AJ w1 (some ⟨y.g,0,none⟩)):=(V.out.at_ y (by simp)).ptr;have J:=af (LG (ra:=[]) (rb:=rb) (y:=y) (.inl rfl));have aK:=af (KZ (Ka y));have cv:decide ((0:Int)<(K:Int))=true:=dh (by omega);have bR:1≤K:=aI;have bS:(1:Int)≤(K:Int):=by omega
      clear a2;go_upto_region 15 with fail;refine aC 18 ag [Is (.int .i64 1),Is (.bool true),Is (.bool true),Is (undef),Is (undef),Is (undef),Is (undef),Is (undef),Is (undef),Is (undef),Is (undef),Is (undef),Is (undef),Is (undef),Is (undef),Is (undef),Is (.bool true),Is (.bool true)] [] (fun _=>True) (fun _ _=>false) (by kernel_rfl) (by kernel_rfl) (by kernel_rfl) (by kernel_rfl) ⟨Is.ah _,Is.ah _,Is.ah _,Is.ah _,Is.ah _,Is.ah _,Is.ah _,Is.ah _,Is.ah _,Is.ah _,Is.ah _,Is.ah _,Is.ah _,Is.ah _,Is.ah _,Is.ah _,Is.ah _,Is.ah _,trivial⟩ trivial (fun _ _ _ _ h=>h) trivial ?_ ?_
      ·refine⟨?zDJ,?zB9,?zBA,?zBB,?zBC,?zBD,?zBE,?zBF,?zBG,?zBH,?xU,?xV,?xW,?xX,?xY,?xZ,?ZA,?ZB,trivial⟩;all_goals intro u w' d l j n m k
       all_goals simp only[bH,bI,bJ,bK,ay,Act.put,bL,bM,bN,Nat.reduceAdd,Nat.zero_add]
       case' zB9=>simp only[show u 0=_ from j 0]
       case' zBA=>simp only[show u 1=_ from j 1]
       case zBB=>simp only[show u 2=_ from j 2];exact .inr ⟨by kernel_rfl,_,rfl,aD,rfl,trivial⟩
       case zBC=>simp only[show u 2=_ from j 2];exact .inr ⟨by kernel_rfl,_,rfl,aD,rfl,trivial⟩
       case zBD=>simp only[show u 2=_ from j 2];exact .inr ⟨by kernel_rfl,_,rfl,aD,rfl,trivial⟩
       case zBE=>simp only[show u 2=_ from j 2];exact .inr ⟨by kernel_rfl,_,rfl,aD,rfl,trivial⟩
       case zBF=>simp only[show u 2=_ from j 2];exact .inr ⟨by kernel_rfl,_,rfl,aD,rfl,trivial⟩
       case zBG=>simp only[show u 2=_ from j 2];exact .inr ⟨by kernel_rfl,_,rfl,aD,rfl,trivial⟩
       case zBH=>simp only[show u 2=_ from j 2];exact .inr ⟨by kernel_rfl,_,rfl,aD,rfl,trivial⟩
       case xU=>simp only[show u 2=_ from j 2];exact .inr ⟨by kernel_rfl,_,rfl,aD,rfl,trivial⟩
       case xV=>simp only[show u 2=_ from j 2];exact .inr ⟨by kernel_rfl,_,rfl,aD,rfl,trivial⟩
       case xW=>simp only[show u 2=_ from j 2];exact .inr ⟨by kernel_rfl,_,rfl,aD,rfl,trivial⟩
       case xX=>simp only[show u 2=_ from j 2];exact .inr ⟨by kernel_rfl,_,rfl,aD,rfl,trivial⟩
       case xY=>simp only[show u 2=_ from j 2];exact .inr ⟨by kernel_rfl,_,rfl,aD,rfl,trivial⟩
       case xZ=>simp only[show u 2=_ from j 2];exact .inr ⟨by kernel_rfl,_,rfl,aD,rfl,trivial⟩
       case' ZA=>simp only[show u 2=_ from j 2,show u 15=_ from j 15]
       case' ZB=>simp only[show u 16=_ from j 16]
       all_goals
        clear j n m k;refine aj ?_;go_simp;exact⟨_,rfl,al⟩
      ·intro u w' l j k;have z:u 17=_:=j 17 (by omega);clear j k;simp only[bH,bI,bJ,bK,ay,Act.put,bL,bM,bN,dD,dE,Nat.reduceAdd,Nat.zero_add,z];have o:=af l;clear l z;have s:=af (s.out.behind o.out);have t:Hid (w'.cell? p=some (.pointer (some ⟨y.g,0,none⟩))):=o.out.an t.out (fun x=>x);have C:Hid (Mid w' y.g y.nm y.v):=C.out.ar o.out;clear o;generalize w'=wr at*;go_upto_region 16 with fail;refine aC 15 ag [Is (.slice bl done.length c5),Is (.slice (some p) K O),Is (.pointer (some p)),Is (.pointer (some ⟨y.g,0,none⟩)),Is (.pointer (some ⟨y.g,0,none⟩)),Is (.pointer (some ⟨y.g,2,none⟩)),Is (.agg y.nm.cells.toArray),Is (.slice (some p) K O),Is (.pointer (some p)),Is (.pointer (some ⟨y.g,0,none⟩)),Is (.pointer (some ⟨y.g,0,none⟩)),Is (.pointer (some ⟨y.g,7,none⟩)),Is (.string y.v),Is (.agg (Kz (Ka y)).cells.toArray),(fun a4 a3=>∃g,a4= .slice (some ⟨g,0,none⟩) 1 1∧Rd a3 (fun _=>True) 7 (some ⟨g,0,none⟩) 1 (Kz (Ka y)).cells)] [] (fun _=>True) (fun _ _=>false) (by kernel_rfl) (by kernel_rfl) (by kernel_rfl) (by kernel_rfl) ⟨Is.ah _,Is.ah _,Is.ah _,Is.ah _,Is.ah _,Is.ah _,Is.ah _,Is.ah _,Is.ah _,Is.ah _,Is.ah _,Is.ah _,Is.ah _,Is.ah _,fun _ _ _ _ f h=>by obtain⟨g,e,r⟩:=h;exact⟨g,e,r.ar f⟩,trivial⟩ trivial (fun _ _ _ _ h=>h) trivial ?_ ?_
       ·refine⟨?zE0,?zE1,?zBI,?zBJ,?zC0,?zC1,?zC2,?zE2,?zC3,?zC4,?ZC,?ZD,?ZE,?ZF,?ZG,trivial⟩;all_goals intro u w' d l j n m k
        all_goals simp only[bH,bI,bJ,bK,ay,Act.put,bL,bM,bN,Nat.reduceAdd,Nat.zero_add]
        case' zBI=>simp only[show u 1=_ from j 1]
        case zBJ=>
         simp only[show u 2=_ from j 2];clear j n m k;refine aj ?_;have q:=l.an t.out (fun x=>x);go_simp;exact⟨_,rfl,al⟩
        case' zC0=>simp only[show u 3=_ from j 3]
        case' zC1=>simp only[show u 4=_ from j 4]
        case zC2=>
         simp only[show u 5=_ from j 5];clear j n m k;refine aj ?_;exact az _ _ rfl ⟨y.g,2,none⟩ rfl y.nm.cells _ (fun L v I=>by rw[Addr.add_mid];exact(C.out.ar l).name L v I) Tryz.underlying106 rfl bD ⟨_,rfl,al⟩
        case' zC3=>simp only[show u 7=_ from j 7]
        case zC4=>
         simp only[show u 8=_ from j 8];clear j n m k;refine aj ?_;have q:=l.an t.out (fun x=>x);go_simp;exact⟨_,rfl,al⟩
        case' ZC=>simp only[show u 9=_ from j 9]
        case' ZD=>simp only[show u 10=_ from j 10]
        case ZE=>
         simp only[show u 11=_ from j 11];clear j n m k;refine aj ?_;have q:=(C.out.ar l).val;go_simp;exact⟨_,rfl,al⟩
        case ZF=>
         simp only[show u 6=_ from j 6,show u 12=_ from j 12];clear j n m k;refine aj ?_;exact iF 119 _ rfl (Kz (Ka y)).cells.toArray _ (by simp only[List.map_toArray,List.map_cons,List.map_nil];rfl) aK.out ⟨_,rfl,al⟩
        case ZG=>
         simp only[show u 13=_ from j 13];clear j n m k;refine aj ?_;refine wp_buildSlice 44 119 1 _ rfl (Kz (Ka y)).cells.toArray U di Tryz.underlying44 M N ad.out ae.out (by simp only[List.map_toArray,List.map_cons,List.map_nil];exact ai.out _) ?_;exact⟨_,rfl,aD.alloc _,⟨_,rfl,(Je w' (Kz (Ka y)).cells.toArray 119 7 1 rfl).any⟩,trivial⟩
        all_goals
         clear j n m k;refine aj ?_;go_simp;exact⟨_,rfl,al⟩
       ·intro u w' l j k;have m:u 0=_:=j 0 (by omega);obtain⟨g9,R,S⟩:=j 14 (by omega);clear j k;simp only[bH,bI,bJ,bK,ay,Act.put,bL,bM,bN,dD,dE,Nat.reduceAdd,Nat.zero_add,m,R];have s:=af (s.out.behind l);have ac:=af S;clear l m R S;refine iE _ rfl _ _ 44 rfl 119 U di 7 80 Tryz.underlying44 M N Q ap rfl (by decide) _ _ _ rfl s.out.own _ _ 1 1 _ rfl ac.out (KV _) (by have:=aL.out;omega) (by decide) ?_;intro v9 ax F;have aq:Hid (bW 119 7 w1 (.slice none 0 0) ax v9 (done.length+1) (done.flatMap CV.cells++(Kz (Ka y)).cells)):=s.out.trans F;obtain⟨a5,be,a8,rfl,_,_⟩:=aU F.own;clear F s;go_wp2;go_roundw;case rel=>exact⟨_,_,_,_,_,_,_,_,done++[Kz (Ka y)],rfl,rfl,ab.out,V.out.tail,by rw[←aA.out,J.out,List.append_assoc];rfl,by rw[bh,List.flatMap_append,List.flatMap_singleton];exact aq.out⟩
        case measure=>simp only[KL];omega
    |cons x ra=>
     obtain⟨G,rfl,cf,bY⟩:=ab.out.head;have E:Hid (wr.cell? G=some (.pointer (some ⟨x.g,0,none⟩))):=T.out.an cf (fun x=>x);have H:Hid (Mid wr x.g x.nm x.v):=(ab.out.at_ x (by simp)).lA.ar T.out;have aa:Hid (AJ w1 (some ⟨x.g,0,none⟩)):=(ab.out.at_ x (by simp)).ptr;have aw:decide ((0:Int)<(P:Int))=true:=dh (by omega);have cz:((P:Int)==0)=false:=ku (by omega);have cp:1≤P:=bY;have cq:(1:Int)≤(P:Int):=by omega
     clear cf;cases rb with
     |nil=>
      obtain rfl:K=0:=aW.symm;have J:=af (LH (ra:=ra) (rb:=[]) (x:=x) (.inl rfl));have bm:=af (Ln (Ka x));have aG:=E.out;go_wp2_with(refine aF rfl 106 (.tmp 75) rfl ⟨x.g,2,none⟩ rfl x.nm.cells _ ?zC5 Tryz.underlying106 rfl bD (bj.go ?zE3));case zC5=>exact fun L v I=>by rw[Addr.add_mid];exact H.out.name L v I
      unfold bj;refine eA rfl 119 _ rfl (KJ (Ka x)).cells.toArray _ (by simp only[List.map_toArray,List.map_cons,List.map_nil];rfl) bm.out (bj.go ?zC7);unfold bj;refine wpList_buildSlice rfl 44 119 1 _ rfl (KJ (Ka x)).cells.toArray U di Tryz.underlying44 M N ad.out ae.out (by simp only[List.map_toArray,List.map_cons,List.map_nil];exact ai.out _) ?_;refine da _ rfl _ _ 44 rfl 119 U di 7 80 Tryz.underlying44 M N Q ap rfl (by decide) _ _ _ rfl s.out.own 1 (KJ (Ka x)).cells.toArray _ rfl rfl rfl (KV _) (by have:=aL.out;omega) (by decide) ?_;intro v9 ax F;clear aG;have aq:Hid (bW 119 7 w1 (.slice none 0 0) ax v9 (done.length+1) (done.flatMap CV.cells++(KJ (Ka x)).cells)):=s.out.trans F;obtain⟨a5,be,a8,rfl,_,_⟩:=aU F.own;clear F s;go_wp2;go_roundw;case rel=>exact⟨_,_,_,_,_,_,_,_,done++[KJ (Ka x)],rfl,rfl,ab.out.tail,V.out,by rw[←aA.out,J.out,List.append_assoc];rfl,by rw[bh,List.flatMap_append,List.flatMap_singleton];exact aq.out⟩
      case measure=>simp only[KL];omega
     |cons y rb=>
      obtain⟨p,rfl,a2,aI⟩:=V.out.head;have t:Hid (wr.cell? p=some (.pointer (some ⟨y.g,0,none⟩))):=T.out.an a2 (fun x=>x);have C:Hid (Mid wr y.g y.nm y.v):=(V.out.at_ y (by simp)).lA.ar T.out;have W:Hid (AJ w1 (some ⟨y.g,0,none⟩)):=(V.out.at_ y (by simp)).ptr;have cv:decide ((0:Int)<(K:Int))=true:=dh (by omega);have cA:((K:Int)==0)=false:=ku (by omega);have bR:1≤K:=aI;have bS:(1:Int)≤(K:Int):=by omega
      have bs:Hid (x.nm.owner.size≤1099511627776):=ab.out.own x (by simp);have bt:Hid (y.nm.owner.size≤1099511627776):=V.out.own y (by simp);clear a2;by_cases bc:x.g=y.g
      ·have hm:=LX H.out (by rw[bc];exact C.out);have aH:cT x.nm y.nm=0:=by rw[hm.1];exact cU.refl _
       have I:(x.v==y.v)=true:=by rw[hm.2];exact(LF _ _).2 rfl
       have ch:(x.v.toList==y.v.toList)=true:=by rw[LY];exact I
       have J:=af (Lc (ra:=ra) (rb:=rb) aH I);have Y:decide ((some ⟨x.g,0,none⟩:Option Addr)=some ⟨y.g,0,none⟩)=!false:=by rw[bc];simp
       clear hm aH I bc;go_upto_region 11 with fail;refine aC 8 ag [Is (.slice (some G) P X),Is (.pointer (some G)),Is (.pointer (some ⟨x.g,0,none⟩)),Is (.slice (some p) K O),Is (.pointer (some p)),Is (.pointer (some ⟨y.g,0,none⟩)),Is (.bool false),Is (.bool false)] [] (fun _=>True) (fun _ _=>false) (by kernel_rfl) (by kernel_rfl) (by kernel_rfl) (by kernel_rfl) ⟨Is.ah _,Is.ah _,Is.ah _,Is.ah _,Is.ah _,Is.ah _,Is.ah _,Is.ah _,trivial⟩ trivial (fun _ _ _ _ h=>h) trivial ?_ ?_
       ·refine⟨?zCB,?ZZ,?YA,?zCC,?YB,?YC,?YD,?YE,trivial⟩;all_goals intro u w' d l j n m k
        all_goals simp only[bH,bI,bJ,bK,ay,Act.put,bL,bM,bN,Nat.reduceAdd,Nat.zero_add]
        case' ZZ=>simp only[show u 0=_ from j 0]
        case YA=>
         simp only[show u 1=_ from j 1];clear j n m k;refine aj ?_;have q:=l.an E.out (fun x=>x);go_simp;exact⟨_,rfl,al⟩
        case' YB=>simp only[show u 3=_ from j 3]
        case YC=>
         simp only[show u 4=_ from j 4];clear j n m k;refine aj ?_;have q:=l.an t.out (fun x=>x);go_simp;exact⟨_,rfl,al⟩
        case YD=>
         simp only[show u 2=_ from j 2,show u 5=_ from j 5];clear j n m k;refine aj ?_;have q:=K6 (some ⟨x.g,0,none⟩) (some ⟨y.g,0,none⟩) w' (aa.out.ar (T.out.trans l)) (W.out.ar (T.out.trans l)) false Y;go_simp;exact⟨_,rfl,al⟩
        case' YE=>simp only[show u 6=_ from j 6]
        all_goals
         clear j n m k;refine aj ?_;go_simp;exact⟨_,rfl,al⟩
       ·intro u w' l j k;have z:u 7=_:=j 7 (by omega);clear j k;simp only[bH,bI,bJ,bK,ay,Act.put,bL,bM,bN,dD,dE,Nat.reduceAdd,Nat.zero_add,z];have o:=af l;clear l z;have s:=af (s.out.behind o.out);have E:Hid (w'.cell? G=some (.pointer (some ⟨x.g,0,none⟩))):=o.out.an E.out (fun x=>x);have H:Hid (Mid w' x.g x.nm x.v):=H.out.ar o.out;have t:Hid (w'.cell? p=some (.pointer (some ⟨y.g,0,none⟩))):=o.out.an t.out (fun x=>x);have C:Hid (Mid w' y.g y.nm y.v):=C.out.ar o.out;clear o;generalize w'=wr at*;go_upto_region 15 with fail;refine aC 18 ag [Is (.int .i64 0),Is (.bool false),Is (.bool false),Is (.slice (some G) P X),Is (.pointer (some G)),Is (.pointer (some ⟨x.g,0,none⟩)),Is (.pointer (some ⟨x.g,0,none⟩)),Is (.pointer (some ⟨x.g,7,none⟩)),Is (.string x.v),Is (.slice (some p) K O),Is (.pointer (some p)),Is (.pointer (some ⟨y.g,0,none⟩)),Is (.pointer (some ⟨y.g,0,none⟩)),Is (.pointer (some ⟨y.g,7,none⟩)),Is (.string y.v),Is (.bool false),Is (.bool false),Is (.bool false)] [] (fun _=>True) (fun _ _=>false) (by kernel_rfl) (by kernel_rfl) (by kernel_rfl) (by kernel_rfl) ⟨Is.ah _,Is.ah _,Is.ah _,Is.ah _,Is.ah _,Is.ah _,Is.ah _,Is.ah _,Is.ah _,Is.ah _,Is.ah _,Is.ah _,Is.ah _,Is.ah _,Is.ah _,Is.ah _,Is.ah _,Is.ah _,trivial⟩ trivial (fun _ _ _ _ h=>h) trivial ?_ ?_
        ·refine⟨?zCD,?YF,?YG,?YH,?YI,?YJ,?YK,?YL,?YM,?YN,?zO,?zP,?zQ,?zR,?zS,?zT,?zU,?zV,trivial⟩;all_goals intro u w' d l j n m k
         all_goals simp only[bH,bI,bJ,bK,ay,Act.put,bL,bM,bN,Nat.reduceAdd,Nat.zero_add]
         case' YF=>simp only[show u 0=_ from j 0]
         case' YG=>simp only[show u 1=_ from j 1]
         case' YH=>simp only[show u 2=_ from j 2]
         case' YI=>simp only[show u 3=_ from j 3,show u 2=_ from j 2]
         case YJ=>
          simp only[show u 4=_ from j 4,show u 2=_ from j 2];clear j n m k;refine aj ?_;have q:=l.an E.out (fun x=>x);go_simp;exact⟨_,rfl,al⟩
         case' YK=>simp only[show u 5=_ from j 5,show u 2=_ from j 2]
         case' YL=>simp only[show u 6=_ from j 6,show u 2=_ from j 2]
         case YM=>
          simp only[show u 7=_ from j 7,show u 2=_ from j 2];clear j n m k;refine aj ?_;have q:=(H.out.ar l).val;go_simp;exact⟨_,rfl,al⟩
         case' YN=>simp only[show u 2=_ from j 2]
         case' zO=>simp only[show u 9=_ from j 9,show u 2=_ from j 2]
         case zP=>
          simp only[show u 10=_ from j 10,show u 2=_ from j 2];clear j n m k;refine aj ?_;have q:=l.an t.out (fun x=>x);go_simp;exact⟨_,rfl,al⟩
         case' zQ=>simp only[show u 11=_ from j 11,show u 2=_ from j 2]
         case' zR=>simp only[show u 12=_ from j 12,show u 2=_ from j 2]
         case zS=>
          simp only[show u 13=_ from j 13,show u 2=_ from j 2];clear j n m k;refine aj ?_;have q:=(C.out.ar l).val;go_simp;exact⟨_,rfl,al⟩
         case' zT=>simp only[show u 8=_ from j 8,show u 14=_ from j 14,show u 2=_ from j 2]
         case' zU=>simp only[show u 2=_ from j 2,show u 15=_ from j 15]
         case' zV=>simp only[show u 16=_ from j 16]
         all_goals
          clear j n m k;refine aj ?_;go_simp;exact⟨_,rfl,al⟩
        ·intro u w' l j k;have z:u 17=_:=j 17 (by omega);clear j k;simp only[bH,bI,bJ,bK,ay,Act.put,bL,bM,bN,dD,dE,Nat.reduceAdd,Nat.zero_add,z];have o:=af l;clear l z;have s:=af (s.out.behind o.out);have E:Hid (w'.cell? G=some (.pointer (some ⟨x.g,0,none⟩))):=o.out.an E.out (fun x=>x);have H:Hid (Mid w' x.g x.nm x.v):=H.out.ar o.out;have t:Hid (w'.cell? p=some (.pointer (some ⟨y.g,0,none⟩))):=o.out.an t.out (fun x=>x);have C:Hid (Mid w' y.g y.nm y.v):=C.out.ar o.out;clear o;generalize w'=wr at*;go_wp2;go_roundw;case rel=>exact⟨_,_,_,_,_,_,_,_,done,rfl,rfl,ab.out.tail,V.out.tail,by rw[←aA.out,J.out],s.out⟩
         case measure=>simp only[KL];omega
      ·have Y:decide ((some ⟨x.g,0,none⟩:Option Addr)=some ⟨y.g,0,none⟩)=!true:=ct (fun e=>bc (congrArg Addr.block (Option.some.inj e)));obtain⟨q,bX⟩:∃q,cT x.nm y.nm=q:=⟨_,rfl⟩;have a6:Hid (∀w',Calls Tryz.prog 128 #[.agg x.nm.cells.toArray, .agg y.nm.cells.toArray] w' (aJ w' (.int .i64 q))):=fun w'=>by
        rw[←bX];exact gN x.nm y.nm w' bs.out bt.out
       have bu:=af bX;clear bX;by_cases bT:q<0
       ·have cw:decide (q<0)=true:=decide_eq_true bT;have cx:decide (q≤0)=true:=dh (by omega);have cy:decide (0≤q)=false:=ct (by omega);have J:=af (LH (ra:=ra) (rb:=y::rb) (x:=x) (.inr ⟨y,rb,rfl,by rw[bu.out];exact bT⟩));have bm:=af (Ln (Ka x));go_upto_region 11 with fail;refine aC 8 ag [Is (.slice (some G) P X),Is (.pointer (some G)),Is (.pointer (some ⟨x.g,0,none⟩)),Is (.slice (some p) K O),Is (.pointer (some p)),Is (.pointer (some ⟨y.g,0,none⟩)),Is (.bool true),Is (.bool true)] [] (fun _=>True) (fun _ _=>false) (by kernel_rfl) (by kernel_rfl) (by kernel_rfl) (by kernel_rfl) ⟨Is.ah _,Is.ah _,Is.ah _,Is.ah _,Is.ah _,Is.ah _,Is.ah _,Is.ah _,trivial⟩ trivial (fun _ _ _ _ h=>h) trivial ?_ ?_
        ·refine⟨?zCE,?YO,?YP,?zCF,?YQ,?YR,?YS,?YT,trivial⟩;all_goals intro u w' d l j n m k
         all_goals simp only[bH,bI,bJ,bK,ay,Act.put,bL,bM,bN,Nat.reduceAdd,Nat.zero_add]
         case' YO=>simp only[show u 0=_ from j 0]
         case YP=>
          simp only[show u 1=_ from j 1];clear j n m k;refine aj ?_;have q:=l.an E.out (fun x=>x);go_simp;exact⟨_,rfl,al⟩
         case' YQ=>simp only[show u 3=_ from j 3]
         case YR=>
          simp only[show u 4=_ from j 4];clear j n m k;refine aj ?_;have q:=l.an t.out (fun x=>x);go_simp;exact⟨_,rfl,al⟩
         case YS=>
          simp only[show u 2=_ from j 2,show u 5=_ from j 5];clear j n m k;refine aj ?_;have q:=K6 (some ⟨x.g,0,none⟩) (some ⟨y.g,0,none⟩) w' (aa.out.ar (T.out.trans l)) (W.out.ar (T.out.trans l)) true Y;go_simp;exact⟨_,rfl,al⟩
         case' YT=>simp only[show u 6=_ from j 6]
         all_goals
          clear j n m k;refine aj ?_;go_simp;exact⟨_,rfl,al⟩
        ·intro u w' l j k;have z:u 7=_:=j 7 (by omega);clear j k;simp only[bH,bI,bJ,bK,ay,Act.put,bL,bM,bN,dD,dE,Nat.reduceAdd,Nat.zero_add,z];have o:=af l;clear l z;have s:=af (s.out.behind o.out);have E:Hid (w'.cell? G=some (.pointer (some ⟨x.g,0,none⟩))):=o.out.an E.out (fun x=>x);have H:Hid (Mid w' x.g x.nm x.v):=H.out.ar o.out;have t:Hid (w'.cell? p=some (.pointer (some ⟨y.g,0,none⟩))):=o.out.an t.out (fun x=>x);have C:Hid (Mid w' y.g y.nm y.v):=C.out.ar o.out;clear o;generalize w'=wr at*;go_upto_region 12 with fail;refine aC 14 ag [Is (.slice (some G) P X),Is (.pointer (some G)),Is (.pointer (some ⟨x.g,0,none⟩)),Is (.pointer (some ⟨x.g,0,none⟩)),Is (.pointer (some ⟨x.g,2,none⟩)),Is (.agg x.nm.cells.toArray),Is (.slice (some p) K O),Is (.pointer (some p)),Is (.pointer (some ⟨y.g,0,none⟩)),Is (.pointer (some ⟨y.g,0,none⟩)),Is (.pointer (some ⟨y.g,2,none⟩)),Is (.agg y.nm.cells.toArray),Is (.int .i64 q),Is (.int .i64 q)] [] (fun _=>True) (fun _ _=>false) (by kernel_rfl) (by kernel_rfl) (by kernel_rfl) (by kernel_rfl) ⟨Is.ah _,Is.ah _,Is.ah _,Is.ah _,Is.ah _,Is.ah _,Is.ah _,Is.ah _,Is.ah _,Is.ah _,Is.ah _,Is.ah _,Is.ah _,Is.ah _,trivial⟩ trivial (fun _ _ _ _ h=>h) trivial ?_ ?_
         ·refine⟨?zCG,?YU,?YV,?YW,?YX,?YY,?zCH,?YZ,?XA,?XB,?zW,?zX,?zY,?zZ,trivial⟩;all_goals intro u w' d l j n m k
          all_goals simp only[bH,bI,bJ,bK,ay,Act.put,bL,bM,bN,Nat.reduceAdd,Nat.zero_add]
          case' YU=>simp only[show u 0=_ from j 0]
          case YV=>
           simp only[show u 1=_ from j 1];clear j n m k;refine aj ?_;have q:=l.an E.out (fun x=>x);go_simp;exact⟨_,rfl,al⟩
          case' YW=>simp only[show u 2=_ from j 2]
          case' YX=>simp only[show u 3=_ from j 3]
          case YY=>
           simp only[show u 4=_ from j 4];clear j n m k;refine aj ?_;exact az _ _ rfl ⟨x.g,2,none⟩ rfl x.nm.cells _ (fun L v I=>by rw[Addr.add_mid];exact(H.out.ar l).name L v I) Tryz.underlying106 rfl bD ⟨_,rfl,al⟩
          case' YZ=>simp only[show u 6=_ from j 6]
          case XA=>
           simp only[show u 7=_ from j 7];clear j n m k;refine aj ?_;have q:=l.an t.out (fun x=>x);go_simp;exact⟨_,rfl,al⟩
          case' XB=>simp only[show u 8=_ from j 8]
          case' zW=>simp only[show u 9=_ from j 9]
          case zX=>
           simp only[show u 10=_ from j 10];clear j n m k;refine aj ?_;exact az _ _ rfl ⟨y.g,2,none⟩ rfl y.nm.cells _ (fun L v I=>by rw[Addr.add_mid];exact(C.out.ar l).name L v I) Tryz.underlying106 rfl bD ⟨_,rfl,al⟩
          case zY=>
           simp only[show u 5=_ from j 5,show u 11=_ from j 11];clear j n m k;refine aj ?_;go_simp;refine(a6.out _).mono ?_;rintro e bZ⟨rfl,f4⟩;exact⟨_,rfl,f4.bP,rfl,trivial⟩
          case' zZ=>simp only[show u 12=_ from j 12]
          all_goals
           clear j n m k;refine aj ?_;go_simp;exact⟨_,rfl,al⟩
         ·intro u w' l j k;have z:u 13=_:=j 13 (by omega);clear j k;simp only[bH,bI,bJ,bK,ay,Act.put,bL,bM,bN,dD,dE,Nat.reduceAdd,Nat.zero_add,z];have o:=af l;clear l z;have s:=af (s.out.behind o.out);have E:Hid (w'.cell? G=some (.pointer (some ⟨x.g,0,none⟩))):=o.out.an E.out (fun x=>x);have H:Hid (Mid w' x.g x.nm x.v):=H.out.ar o.out;have t:Hid (w'.cell? p=some (.pointer (some ⟨y.g,0,none⟩))):=o.out.an t.out (fun x=>x);have C:Hid (Mid w' y.g y.nm y.v):=C.out.ar o.out;clear o;generalize w'=wr at*;have aG:=E.out;go_wp2_with(refine aF rfl 106 (.tmp 75) rfl ⟨x.g,2,none⟩ rfl x.nm.cells _ ?zC6 Tryz.underlying106 rfl bD (bj.go ?zE4));case zC6=>exact fun L v I=>by rw[Addr.add_mid];exact H.out.name L v I
          unfold bj;refine eA rfl 119 _ rfl (KJ (Ka x)).cells.toArray _ (by simp only[List.map_toArray,List.map_cons,List.map_nil];rfl) bm.out (bj.go ?zC8);unfold bj;refine wpList_buildSlice rfl 44 119 1 _ rfl (KJ (Ka x)).cells.toArray U di Tryz.underlying44 M N ad.out ae.out (by simp only[List.map_toArray,List.map_cons,List.map_nil];exact ai.out _) ?_;refine da _ rfl _ _ 44 rfl 119 U di 7 80 Tryz.underlying44 M N Q ap rfl (by decide) _ _ _ rfl s.out.own 1 (KJ (Ka x)).cells.toArray _ rfl rfl rfl (KV _) (by have:=aL.out;omega) (by decide) ?_;intro v9 ax F;clear aG;have aq:Hid (bW 119 7 w1 (.slice none 0 0) ax v9 (done.length+1) (done.flatMap CV.cells++(KJ (Ka x)).cells)):=s.out.trans F;obtain⟨a5,be,a8,rfl,_,_⟩:=aU F.own;clear F s;go_wp2;go_roundw;case rel=>exact⟨_,_,_,_,_,_,_,_,done++[KJ (Ka x)],rfl,rfl,ab.out.tail,V.out,by rw[←aA.out,J.out,List.append_assoc];rfl,by rw[bh,List.flatMap_append,List.flatMap_singleton];exact aq.out⟩
          case measure=>simp only[KL];omega
       ·have cw:decide (q<0)=false:=decide_eq_false bT;by_cases cd:0<q
        ·have cB:decide (0<q)=true:=decide_eq_true cd;have cx:decide (q≤0)=false:=ct (by omega);have cy:decide (0≤q)=true:=dh (by omega);have J:=af (LG (ra:=x::ra) (rb:=rb) (y:=y) (.inr ⟨x,ra,rfl,by rw[bu.out];exact cd⟩));have aK:=af (KZ (Ka y));go_upto_region 11 with fail;refine aC 8 ag [Is (.slice (some G) P X),Is (.pointer (some G)),Is (.pointer (some ⟨x.g,0,none⟩)),Is (.slice (some p) K O),Is (.pointer (some p)),Is (.pointer (some ⟨y.g,0,none⟩)),Is (.bool true),Is (.bool true)] [] (fun _=>True) (fun _ _=>false) (by kernel_rfl) (by kernel_rfl) (by kernel_rfl) (by kernel_rfl) ⟨Is.ah _,Is.ah _,Is.ah _,Is.ah _,Is.ah _,Is.ah _,Is.ah _,Is.ah _,trivial⟩ trivial (fun _ _ _ _ h=>h) trivial ?_ ?_
         ·refine⟨?zCI,?XC,?XD,?zCJ,?XE,?XF,?XG,?XH,trivial⟩;all_goals intro u w' d l j n m k
          all_goals simp only[bH,bI,bJ,bK,ay,Act.put,bL,bM,bN,Nat.reduceAdd,Nat.zero_add]
          case' XC=>simp only[show u 0=_ from j 0]
          case XD=>
           simp only[show u 1=_ from j 1];clear j n m k;refine aj ?_;have q:=l.an E.out (fun x=>x);go_simp;exact⟨_,rfl,al⟩
          case' XE=>simp only[show u 3=_ from j 3]
          case XF=>
           simp only[show u 4=_ from j 4];clear j n m k;refine aj ?_;have q:=l.an t.out (fun x=>x);go_simp;exact⟨_,rfl,al⟩
          case XG=>
           simp only[show u 2=_ from j 2,show u 5=_ from j 5];clear j n m k;refine aj ?_;have q:=K6 (some ⟨x.g,0,none⟩) (some ⟨y.g,0,none⟩) w' (aa.out.ar (T.out.trans l)) (W.out.ar (T.out.trans l)) true Y;go_simp;exact⟨_,rfl,al⟩
          case' XH=>simp only[show u 6=_ from j 6]
          all_goals
           clear j n m k;refine aj ?_;go_simp;exact⟨_,rfl,al⟩
         ·intro u w' l j k;have z:u 7=_:=j 7 (by omega);clear j k;simp only[bH,bI,bJ,bK,ay,Act.put,bL,bM,bN,dD,dE,Nat.reduceAdd,Nat.zero_add,z];have o:=af l;clear l z;have s:=af (s.out.behind o.out);have E:Hid (w'.cell? G=some (.pointer (some ⟨x.g,0,none⟩))):=o.out.an E.out (fun x=>x);have H:Hid (Mid w' x.g x.nm x.v):=H.out.ar o.out;have t:Hid (w'.cell? p=some (.pointer (some ⟨y.g,0,none⟩))):=o.out.an t.out (fun x=>x);have C:Hid (Mid w' y.g y.nm y.v):=C.out.ar o.out;clear o;generalize w'=wr at*;go_upto_region 12 with fail;refine aC 14 ag [Is (.slice (some G) P X),Is (.pointer (some G)),Is (.pointer (some ⟨x.g,0,none⟩)),Is (.pointer (some ⟨x.g,0,none⟩)),Is (.pointer (some ⟨x.g,2,none⟩)),Is (.agg x.nm.cells.toArray),Is (.slice (some p) K O),Is (.pointer (some p)),Is (.pointer (some ⟨y.g,0,none⟩)),Is (.pointer (some ⟨y.g,0,none⟩)),Is (.pointer (some ⟨y.g,2,none⟩)),Is (.agg y.nm.cells.toArray),Is (.int .i64 q),Is (.int .i64 q)] [] (fun _=>True) (fun _ _=>false) (by kernel_rfl) (by kernel_rfl) (by kernel_rfl) (by kernel_rfl) ⟨Is.ah _,Is.ah _,Is.ah _,Is.ah _,Is.ah _,Is.ah _,Is.ah _,Is.ah _,Is.ah _,Is.ah _,Is.ah _,Is.ah _,Is.ah _,Is.ah _,trivial⟩ trivial (fun _ _ _ _ h=>h) trivial ?_ ?_
          ·refine⟨?zD0,?XI,?XJ,?XK,?XL,?XM,?zD1,?XN,?XO,?XP,?yA,?yB,?yC,?yD,trivial⟩;all_goals intro u w' d l j n m k
           all_goals simp only[bH,bI,bJ,bK,ay,Act.put,bL,bM,bN,Nat.reduceAdd,Nat.zero_add]
           case' XI=>simp only[show u 0=_ from j 0]
           case XJ=>
            simp only[show u 1=_ from j 1];clear j n m k;refine aj ?_;have q:=l.an E.out (fun x=>x);go_simp;exact⟨_,rfl,al⟩
           case' XK=>simp only[show u 2=_ from j 2]
           case' XL=>simp only[show u 3=_ from j 3]
           case XM=>
            simp only[show u 4=_ from j 4];clear j n m k;refine aj ?_;exact az _ _ rfl ⟨x.g,2,none⟩ rfl x.nm.cells _ (fun L v I=>by rw[Addr.add_mid];exact(H.out.ar l).name L v I) Tryz.underlying106 rfl bD ⟨_,rfl,al⟩
           case' XN=>simp only[show u 6=_ from j 6]
           case XO=>
            simp only[show u 7=_ from j 7];clear j n m k;refine aj ?_;have q:=l.an t.out (fun x=>x);go_simp;exact⟨_,rfl,al⟩
           case' XP=>simp only[show u 8=_ from j 8]
           case' yA=>simp only[show u 9=_ from j 9]
           case yB=>
            simp only[show u 10=_ from j 10];clear j n m k;refine aj ?_;exact az _ _ rfl ⟨y.g,2,none⟩ rfl y.nm.cells _ (fun L v I=>by rw[Addr.add_mid];exact(C.out.ar l).name L v I) Tryz.underlying106 rfl bD ⟨_,rfl,al⟩
           case yC=>
            simp only[show u 5=_ from j 5,show u 11=_ from j 11];clear j n m k;refine aj ?_;go_simp;refine(a6.out _).mono ?_;rintro e bZ⟨rfl,f4⟩;exact⟨_,rfl,f4.bP,rfl,trivial⟩
           case' yD=>simp only[show u 12=_ from j 12]
           all_goals
            clear j n m k;refine aj ?_;go_simp;exact⟨_,rfl,al⟩
          ·intro u w' l j k;have z:u 13=_:=j 13 (by omega);clear j k;simp only[bH,bI,bJ,bK,ay,Act.put,bL,bM,bN,dD,dE,Nat.reduceAdd,Nat.zero_add,z];have o:=af l;clear l z;have s:=af (s.out.behind o.out);have E:Hid (w'.cell? G=some (.pointer (some ⟨x.g,0,none⟩))):=o.out.an E.out (fun x=>x);have H:Hid (Mid w' x.g x.nm x.v):=H.out.ar o.out;have t:Hid (w'.cell? p=some (.pointer (some ⟨y.g,0,none⟩))):=o.out.an t.out (fun x=>x);have C:Hid (Mid w' y.g y.nm y.v):=C.out.ar o.out;clear o;generalize w'=wr at*;go_upto_region 15 with fail;refine aC 18 ag [Is (.int .i64 q),Is (.bool true),Is (.bool true),Is (undef),Is (undef),Is (undef),Is (undef),Is (undef),Is (undef),Is (undef),Is (undef),Is (undef),Is (undef),Is (undef),Is (undef),Is (undef),Is (.bool true),Is (.bool true)] [] (fun _=>True) (fun _ _=>false) (by kernel_rfl) (by kernel_rfl) (by kernel_rfl) (by kernel_rfl) ⟨Is.ah _,Is.ah _,Is.ah _,Is.ah _,Is.ah _,Is.ah _,Is.ah _,Is.ah _,Is.ah _,Is.ah _,Is.ah _,Is.ah _,Is.ah _,Is.ah _,Is.ah _,Is.ah _,Is.ah _,Is.ah _,trivial⟩ trivial (fun _ _ _ _ h=>h) trivial ?_ ?_
           ·refine⟨?zD2,?XQ,?XR,?XS,?XT,?XU,?XV,?XW,?XX,?XY,?yE,?yF,?yG,?yH,?yI,?yJ,?yK,?yL,trivial⟩;all_goals intro u w' d l j n m k
            all_goals simp only[bH,bI,bJ,bK,ay,Act.put,bL,bM,bN,Nat.reduceAdd,Nat.zero_add]
            case' XQ=>simp only[show u 0=_ from j 0]
            case' XR=>simp only[show u 1=_ from j 1]
            case XS=>simp only[show u 2=_ from j 2];exact .inr ⟨by kernel_rfl,_,rfl,aD,rfl,trivial⟩
            case XT=>simp only[show u 2=_ from j 2];exact .inr ⟨by kernel_rfl,_,rfl,aD,rfl,trivial⟩
            case XU=>simp only[show u 2=_ from j 2];exact .inr ⟨by kernel_rfl,_,rfl,aD,rfl,trivial⟩
            case XV=>simp only[show u 2=_ from j 2];exact .inr ⟨by kernel_rfl,_,rfl,aD,rfl,trivial⟩
            case XW=>simp only[show u 2=_ from j 2];exact .inr ⟨by kernel_rfl,_,rfl,aD,rfl,trivial⟩
            case XX=>simp only[show u 2=_ from j 2];exact .inr ⟨by kernel_rfl,_,rfl,aD,rfl,trivial⟩
            case XY=>simp only[show u 2=_ from j 2];exact .inr ⟨by kernel_rfl,_,rfl,aD,rfl,trivial⟩
            case yE=>simp only[show u 2=_ from j 2];exact .inr ⟨by kernel_rfl,_,rfl,aD,rfl,trivial⟩
            case yF=>simp only[show u 2=_ from j 2];exact .inr ⟨by kernel_rfl,_,rfl,aD,rfl,trivial⟩
            case yG=>simp only[show u 2=_ from j 2];exact .inr ⟨by kernel_rfl,_,rfl,aD,rfl,trivial⟩
            case yH=>simp only[show u 2=_ from j 2];exact .inr ⟨by kernel_rfl,_,rfl,aD,rfl,trivial⟩
            case yI=>simp only[show u 2=_ from j 2];exact .inr ⟨by kernel_rfl,_,rfl,aD,rfl,trivial⟩
            case yJ=>simp only[show u 2=_ from j 2];exact .inr ⟨by kernel_rfl,_,rfl,aD,rfl,trivial⟩
            case' yK=>simp only[show u 2=_ from j 2,show u 15=_ from j 15]
            case' yL=>simp only[show u 16=_ from j 16]
            all_goals
             clear j n m k;refine aj ?_;go_simp;exact⟨_,rfl,al⟩
           ·intro u w' l j k;have z:u 17=_:=j 17 (by omega);clear j k;simp only[bH,bI,bJ,bK,ay,Act.put,bL,bM,bN,dD,dE,Nat.reduceAdd,Nat.zero_add,z];have o:=af l;clear l z;have s:=af (s.out.behind o.out);have E:Hid (w'.cell? G=some (.pointer (some ⟨x.g,0,none⟩))):=o.out.an E.out (fun x=>x);have H:Hid (Mid w' x.g x.nm x.v):=H.out.ar o.out;have t:Hid (w'.cell? p=some (.pointer (some ⟨y.g,0,none⟩))):=o.out.an t.out (fun x=>x);have C:Hid (Mid w' y.g y.nm y.v):=C.out.ar o.out;clear o;generalize w'=wr at*;go_upto_region 16 with fail;refine aC 15 ag [Is (.slice bl done.length c5),Is (.slice (some p) K O),Is (.pointer (some p)),Is (.pointer (some ⟨y.g,0,none⟩)),Is (.pointer (some ⟨y.g,0,none⟩)),Is (.pointer (some ⟨y.g,2,none⟩)),Is (.agg y.nm.cells.toArray),Is (.slice (some p) K O),Is (.pointer (some p)),Is (.pointer (some ⟨y.g,0,none⟩)),Is (.pointer (some ⟨y.g,0,none⟩)),Is (.pointer (some ⟨y.g,7,none⟩)),Is (.string y.v),Is (.agg (Kz (Ka y)).cells.toArray),(fun a4 a3=>∃g,a4= .slice (some ⟨g,0,none⟩) 1 1∧Rd a3 (fun _=>True) 7 (some ⟨g,0,none⟩) 1 (Kz (Ka y)).cells)] [] (fun _=>True) (fun _ _=>false) (by kernel_rfl) (by kernel_rfl) (by kernel_rfl) (by kernel_rfl) ⟨Is.ah _,Is.ah _,Is.ah _,Is.ah _,Is.ah _,Is.ah _,Is.ah _,Is.ah _,Is.ah _,Is.ah _,Is.ah _,Is.ah _,Is.ah _,Is.ah _,fun _ _ _ _ f h=>by obtain⟨g,e,r⟩:=h;exact⟨g,e,r.ar f⟩,trivial⟩ trivial (fun _ _ _ _ h=>h) trivial ?_ ?_
            ·refine⟨?zD3,?zD4,?XZ,?z0,?z1,?z2,?z3,?zD5,?z4,?z5,?yM,?yN,?yO,?yP,?yQ,trivial⟩;all_goals intro u w' d l j n m k
             all_goals simp only[bH,bI,bJ,bK,ay,Act.put,bL,bM,bN,Nat.reduceAdd,Nat.zero_add]
             case' XZ=>simp only[show u 1=_ from j 1]
             case z0=>
              simp only[show u 2=_ from j 2];clear j n m k;refine aj ?_;have q:=l.an t.out (fun x=>x);go_simp;exact⟨_,rfl,al⟩
             case' z1=>simp only[show u 3=_ from j 3]
             case' z2=>simp only[show u 4=_ from j 4]
             case z3=>
              simp only[show u 5=_ from j 5];clear j n m k;refine aj ?_;exact az _ _ rfl ⟨y.g,2,none⟩ rfl y.nm.cells _ (fun L v I=>by rw[Addr.add_mid];exact(C.out.ar l).name L v I) Tryz.underlying106 rfl bD ⟨_,rfl,al⟩
             case' z4=>simp only[show u 7=_ from j 7]
             case z5=>
              simp only[show u 8=_ from j 8];clear j n m k;refine aj ?_;have q:=l.an t.out (fun x=>x);go_simp;exact⟨_,rfl,al⟩
             case' yM=>simp only[show u 9=_ from j 9]
             case' yN=>simp only[show u 10=_ from j 10]
             case yO=>
              simp only[show u 11=_ from j 11];clear j n m k;refine aj ?_;have q:=(C.out.ar l).val;go_simp;exact⟨_,rfl,al⟩
             case yP=>
              simp only[show u 6=_ from j 6,show u 12=_ from j 12];clear j n m k;refine aj ?_;exact iF 119 _ rfl (Kz (Ka y)).cells.toArray _ (by simp only[List.map_toArray,List.map_cons,List.map_nil];rfl) aK.out ⟨_,rfl,al⟩
             case yQ=>
              simp only[show u 13=_ from j 13];clear j n m k;refine aj ?_;refine wp_buildSlice 44 119 1 _ rfl (Kz (Ka y)).cells.toArray U di Tryz.underlying44 M N ad.out ae.out (by simp only[List.map_toArray,List.map_cons,List.map_nil];exact ai.out _) ?_;exact⟨_,rfl,aD.alloc _,⟨_,rfl,(Je w' (Kz (Ka y)).cells.toArray 119 7 1 rfl).any⟩,trivial⟩
             all_goals
              clear j n m k;refine aj ?_;go_simp;exact⟨_,rfl,al⟩
            ·intro u w' l j k;have m:u 0=_:=j 0 (by omega);obtain⟨g9,R,S⟩:=j 14 (by omega);clear j k;simp only[bH,bI,bJ,bK,ay,Act.put,bL,bM,bN,dD,dE,Nat.reduceAdd,Nat.zero_add,m,R];have s:=af (s.out.behind l);have ac:=af S;clear l m R S;refine iE _ rfl _ _ 44 rfl 119 U di 7 80 Tryz.underlying44 M N Q ap rfl (by decide) _ _ _ rfl s.out.own _ _ 1 1 _ rfl ac.out (KV _) (by have:=aL.out;omega) (by decide) ?_;intro v9 ax F;have aq:Hid (bW 119 7 w1 (.slice none 0 0) ax v9 (done.length+1) (done.flatMap CV.cells++(Kz (Ka y)).cells)):=s.out.trans F;obtain⟨a5,be,a8,rfl,_,_⟩:=aU F.own;clear F s;go_wp2;go_roundw;case rel=>exact⟨_,_,_,_,_,_,_,_,done++[Kz (Ka y)],rfl,rfl,ab.out,V.out.tail,by rw[←aA.out,J.out,List.append_assoc];rfl,by rw[bh,List.flatMap_append,List.flatMap_singleton];exact aq.out⟩
             case measure=>simp only[KL];omega
        ·obtain rfl:q=0:=by omega
         have aH:cT x.nm y.nm=0:=bu.out;cases I:(x.v==y.v)
         ·have ch:(x.v.toList==y.v.toList)=false:=by rw[LY];exact I
          have J:=af (Lw (ra:=ra) (rb:=rb) aH I);have aK:=af (KZ (Ka y));clear I aH;go_upto_region 11 with fail;refine aC 8 ag [Is (.slice (some G) P X),Is (.pointer (some G)),Is (.pointer (some ⟨x.g,0,none⟩)),Is (.slice (some p) K O),Is (.pointer (some p)),Is (.pointer (some ⟨y.g,0,none⟩)),Is (.bool true),Is (.bool true)] [] (fun _=>True) (fun _ _=>false) (by kernel_rfl) (by kernel_rfl) (by kernel_rfl) (by kernel_rfl) ⟨Is.ah _,Is.ah _,Is.ah _,Is.ah _,Is.ah _,Is.ah _,Is.ah _,Is.ah _,trivial⟩ trivial (fun _ _ _ _ h=>h) trivial ?_ ?_
          ·refine⟨?zD6,?z6,?z7,?zD7,?z8,?z9,?y0,?y1,trivial⟩;all_goals intro u w' d l j n m k
           all_goals simp only[bH,bI,bJ,bK,ay,Act.put,bL,bM,bN,Nat.reduceAdd,Nat.zero_add]
           case' z6=>simp only[show u 0=_ from j 0]
           case z7=>
            simp only[show u 1=_ from j 1];clear j n m k;refine aj ?_;have q:=l.an E.out (fun x=>x);go_simp;exact⟨_,rfl,al⟩
           case' z8=>simp only[show u 3=_ from j 3]
           case z9=>
            simp only[show u 4=_ from j 4];clear j n m k;refine aj ?_;have q:=l.an t.out (fun x=>x);go_simp;exact⟨_,rfl,al⟩
           case y0=>
            simp only[show u 2=_ from j 2,show u 5=_ from j 5];clear j n m k;refine aj ?_;have q:=K6 (some ⟨x.g,0,none⟩) (some ⟨y.g,0,none⟩) w' (aa.out.ar (T.out.trans l)) (W.out.ar (T.out.trans l)) true Y;go_simp;exact⟨_,rfl,al⟩
           case' y1=>simp only[show u 6=_ from j 6]
           all_goals
            clear j n m k;refine aj ?_;go_simp;exact⟨_,rfl,al⟩
          ·intro u w' l j k;have z:u 7=_:=j 7 (by omega);clear j k;simp only[bH,bI,bJ,bK,ay,Act.put,bL,bM,bN,dD,dE,Nat.reduceAdd,Nat.zero_add,z];have o:=af l;clear l z;have s:=af (s.out.behind o.out);have E:Hid (w'.cell? G=some (.pointer (some ⟨x.g,0,none⟩))):=o.out.an E.out (fun x=>x);have H:Hid (Mid w' x.g x.nm x.v):=H.out.ar o.out;have t:Hid (w'.cell? p=some (.pointer (some ⟨y.g,0,none⟩))):=o.out.an t.out (fun x=>x);have C:Hid (Mid w' y.g y.nm y.v):=C.out.ar o.out;clear o;generalize w'=wr at*;go_upto_region 12 with fail;refine aC 14 ag [Is (.slice (some G) P X),Is (.pointer (some G)),Is (.pointer (some ⟨x.g,0,none⟩)),Is (.pointer (some ⟨x.g,0,none⟩)),Is (.pointer (some ⟨x.g,2,none⟩)),Is (.agg x.nm.cells.toArray),Is (.slice (some p) K O),Is (.pointer (some p)),Is (.pointer (some ⟨y.g,0,none⟩)),Is (.pointer (some ⟨y.g,0,none⟩)),Is (.pointer (some ⟨y.g,2,none⟩)),Is (.agg y.nm.cells.toArray),Is (.int .i64 0),Is (.int .i64 0)] [] (fun _=>True) (fun _ _=>false) (by kernel_rfl) (by kernel_rfl) (by kernel_rfl) (by kernel_rfl) ⟨Is.ah _,Is.ah _,Is.ah _,Is.ah _,Is.ah _,Is.ah _,Is.ah _,Is.ah _,Is.ah _,Is.ah _,Is.ah _,Is.ah _,Is.ah _,Is.ah _,trivial⟩ trivial (fun _ _ _ _ h=>h) trivial ?_ ?_
           ·refine⟨?zD8,?y2,?y3,?y4,?y5,?y6,?zD9,?y7,?y8,?y9,?yR,?yS,?yT,?yU,trivial⟩;all_goals intro u w' d l j n m k
            all_goals simp only[bH,bI,bJ,bK,ay,Act.put,bL,bM,bN,Nat.reduceAdd,Nat.zero_add]
            case' y2=>simp only[show u 0=_ from j 0]
            case y3=>
             simp only[show u 1=_ from j 1];clear j n m k;refine aj ?_;have q:=l.an E.out (fun x=>x);go_simp;exact⟨_,rfl,al⟩
            case' y4=>simp only[show u 2=_ from j 2]
            case' y5=>simp only[show u 3=_ from j 3]
            case y6=>
             simp only[show u 4=_ from j 4];clear j n m k;refine aj ?_;exact az _ _ rfl ⟨x.g,2,none⟩ rfl x.nm.cells _ (fun L v I=>by rw[Addr.add_mid];exact(H.out.ar l).name L v I) Tryz.underlying106 rfl bD ⟨_,rfl,al⟩
            case' y7=>simp only[show u 6=_ from j 6]
            case y8=>
             simp only[show u 7=_ from j 7];clear j n m k;refine aj ?_;have q:=l.an t.out (fun x=>x);go_simp;exact⟨_,rfl,al⟩
            case' y9=>simp only[show u 8=_ from j 8]
            case' yR=>simp only[show u 9=_ from j 9]
            case yS=>
             simp only[show u 10=_ from j 10];clear j n m k;refine aj ?_;exact az _ _ rfl ⟨y.g,2,none⟩ rfl y.nm.cells _ (fun L v I=>by rw[Addr.add_mid];exact(C.out.ar l).name L v I) Tryz.underlying106 rfl bD ⟨_,rfl,al⟩
            case yT=>
             simp only[show u 5=_ from j 5,show u 11=_ from j 11];clear j n m k;refine aj ?_;go_simp;refine(a6.out _).mono ?_;rintro e bZ⟨rfl,f4⟩;exact⟨_,rfl,f4.bP,rfl,trivial⟩
            case' yU=>simp only[show u 12=_ from j 12]
            all_goals
             clear j n m k;refine aj ?_;go_simp;exact⟨_,rfl,al⟩
           ·intro u w' l j k;have z:u 13=_:=j 13 (by omega);clear j k;simp only[bH,bI,bJ,bK,ay,Act.put,bL,bM,bN,dD,dE,Nat.reduceAdd,Nat.zero_add,z];have o:=af l;clear l z;have s:=af (s.out.behind o.out);have E:Hid (w'.cell? G=some (.pointer (some ⟨x.g,0,none⟩))):=o.out.an E.out (fun x=>x);have H:Hid (Mid w' x.g x.nm x.v):=H.out.ar o.out;have t:Hid (w'.cell? p=some (.pointer (some ⟨y.g,0,none⟩))):=o.out.an t.out (fun x=>x);have C:Hid (Mid w' y.g y.nm y.v):=C.out.ar o.out;clear o;generalize w'=wr at*;go_upto_region 15 with fail;refine aC 18 ag [Is (.int .i64 0),Is (.bool false),Is (.bool false),Is (.slice (some G) P X),Is (.pointer (some G)),Is (.pointer (some ⟨x.g,0,none⟩)),Is (.pointer (some ⟨x.g,0,none⟩)),Is (.pointer (some ⟨x.g,7,none⟩)),Is (.string x.v),Is (.slice (some p) K O),Is (.pointer (some p)),Is (.pointer (some ⟨y.g,0,none⟩)),Is (.pointer (some ⟨y.g,0,none⟩)),Is (.pointer (some ⟨y.g,7,none⟩)),Is (.string y.v),Is (.bool true),Is (.bool true),Is (.bool true)] [] (fun _=>True) (fun _ _=>false) (by kernel_rfl) (by kernel_rfl) (by kernel_rfl) (by kernel_rfl) ⟨Is.ah _,Is.ah _,Is.ah _,Is.ah _,Is.ah _,Is.ah _,Is.ah _,Is.ah _,Is.ah _,Is.ah _,Is.ah _,Is.ah _,Is.ah _,Is.ah _,Is.ah _,Is.ah _,Is.ah _,Is.ah _,trivial⟩ trivial (fun _ _ _ _ h=>h) trivial ?_ ?_
            ·refine⟨?zDA,?x0,?x1,?x2,?x3,?x4,?x5,?x6,?x7,?x8,?yV,?yW,?yX,?yY,?yZ,?xA,?xB,?xC,trivial⟩;all_goals intro u w' d l j n m k
             all_goals simp only[bH,bI,bJ,bK,ay,Act.put,bL,bM,bN,Nat.reduceAdd,Nat.zero_add]
             case' x0=>simp only[show u 0=_ from j 0]
             case' x1=>simp only[show u 1=_ from j 1]
             case' x2=>simp only[show u 2=_ from j 2]
             case' x3=>simp only[show u 3=_ from j 3,show u 2=_ from j 2]
             case x4=>
              simp only[show u 4=_ from j 4,show u 2=_ from j 2];clear j n m k;refine aj ?_;have q:=l.an E.out (fun x=>x);go_simp;exact⟨_,rfl,al⟩
             case' x5=>simp only[show u 5=_ from j 5,show u 2=_ from j 2]
             case' x6=>simp only[show u 6=_ from j 6,show u 2=_ from j 2]
             case x7=>
              simp only[show u 7=_ from j 7,show u 2=_ from j 2];clear j n m k;refine aj ?_;have q:=(H.out.ar l).val;go_simp;exact⟨_,rfl,al⟩
             case' x8=>simp only[show u 2=_ from j 2]
             case' yV=>simp only[show u 9=_ from j 9,show u 2=_ from j 2]
             case yW=>
              simp only[show u 10=_ from j 10,show u 2=_ from j 2];clear j n m k;refine aj ?_;have q:=l.an t.out (fun x=>x);go_simp;exact⟨_,rfl,al⟩
             case' yX=>simp only[show u 11=_ from j 11,show u 2=_ from j 2]
             case' yY=>simp only[show u 12=_ from j 12,show u 2=_ from j 2]
             case yZ=>
              simp only[show u 13=_ from j 13,show u 2=_ from j 2];clear j n m k;refine aj ?_;have q:=(C.out.ar l).val;go_simp;exact⟨_,rfl,al⟩
             case' xA=>simp only[show u 8=_ from j 8,show u 14=_ from j 14,show u 2=_ from j 2]
             case' xB=>simp only[show u 2=_ from j 2,show u 15=_ from j 15]
             case' xC=>simp only[show u 16=_ from j 16]
             all_goals
              clear j n m k;refine aj ?_;go_simp;exact⟨_,rfl,al⟩
            ·intro u w' l j k;have z:u 17=_:=j 17 (by omega);clear j k;simp only[bH,bI,bJ,bK,ay,Act.put,bL,bM,bN,dD,dE,Nat.reduceAdd,Nat.zero_add,z];have o:=af l;clear l z;have s:=af (s.out.behind o.out);have E:Hid (w'.cell? G=some (.pointer (some ⟨x.g,0,none⟩))):=o.out.an E.out (fun x=>x);have H:Hid (Mid w' x.g x.nm x.v):=H.out.ar o.out;have t:Hid (w'.cell? p=some (.pointer (some ⟨y.g,0,none⟩))):=o.out.an t.out (fun x=>x);have C:Hid (Mid w' y.g y.nm y.v):=C.out.ar o.out;clear o;generalize w'=wr at*;go_upto_region 16 with fail;refine aC 15 ag [Is (.slice bl done.length c5),Is (.slice (some p) K O),Is (.pointer (some p)),Is (.pointer (some ⟨y.g,0,none⟩)),Is (.pointer (some ⟨y.g,0,none⟩)),Is (.pointer (some ⟨y.g,2,none⟩)),Is (.agg y.nm.cells.toArray),Is (.slice (some p) K O),Is (.pointer (some p)),Is (.pointer (some ⟨y.g,0,none⟩)),Is (.pointer (some ⟨y.g,0,none⟩)),Is (.pointer (some ⟨y.g,7,none⟩)),Is (.string y.v),Is (.agg (Kz (Ka y)).cells.toArray),(fun a4 a3=>∃g,a4= .slice (some ⟨g,0,none⟩) 1 1∧Rd a3 (fun _=>True) 7 (some ⟨g,0,none⟩) 1 (Kz (Ka y)).cells)] [] (fun _=>True) (fun _ _=>false) (by kernel_rfl) (by kernel_rfl) (by kernel_rfl) (by kernel_rfl) ⟨Is.ah _,Is.ah _,Is.ah _,Is.ah _,Is.ah _,Is.ah _,Is.ah _,Is.ah _,Is.ah _,Is.ah _,Is.ah _,Is.ah _,Is.ah _,Is.ah _,fun _ _ _ _ f h=>by obtain⟨g,e,r⟩:=h;exact⟨g,e,r.ar f⟩,trivial⟩ trivial (fun _ _ _ _ h=>h) trivial ?_ ?_
             ·refine⟨?zDB,?zDC,?x9,?zA0,?zA1,?zA2,?zA3,?zDD,?zA4,?zA5,?xD,?xE,?xF,?xG,?xH,trivial⟩;all_goals intro u w' d l j n m k
              all_goals simp only[bH,bI,bJ,bK,ay,Act.put,bL,bM,bN,Nat.reduceAdd,Nat.zero_add]
              case' x9=>simp only[show u 1=_ from j 1]
              case zA0=>
               simp only[show u 2=_ from j 2];clear j n m k;refine aj ?_;have q:=l.an t.out (fun x=>x);go_simp;exact⟨_,rfl,al⟩
              case' zA1=>simp only[show u 3=_ from j 3]
              case' zA2=>simp only[show u 4=_ from j 4]
              case zA3=>
               simp only[show u 5=_ from j 5];clear j n m k;refine aj ?_;exact az _ _ rfl ⟨y.g,2,none⟩ rfl y.nm.cells _ (fun L v I=>by rw[Addr.add_mid];exact(C.out.ar l).name L v I) Tryz.underlying106 rfl bD ⟨_,rfl,al⟩
              case' zA4=>simp only[show u 7=_ from j 7]
              case zA5=>
               simp only[show u 8=_ from j 8];clear j n m k;refine aj ?_;have q:=l.an t.out (fun x=>x);go_simp;exact⟨_,rfl,al⟩
              case' xD=>simp only[show u 9=_ from j 9]
              case' xE=>simp only[show u 10=_ from j 10]
              case xF=>
               simp only[show u 11=_ from j 11];clear j n m k;refine aj ?_;have q:=(C.out.ar l).val;go_simp;exact⟨_,rfl,al⟩
              case xG=>
               simp only[show u 6=_ from j 6,show u 12=_ from j 12];clear j n m k;refine aj ?_;exact iF 119 _ rfl (Kz (Ka y)).cells.toArray _ (by simp only[List.map_toArray,List.map_cons,List.map_nil];rfl) aK.out ⟨_,rfl,al⟩
              case xH=>
               simp only[show u 13=_ from j 13];clear j n m k;refine aj ?_;refine wp_buildSlice 44 119 1 _ rfl (Kz (Ka y)).cells.toArray U di Tryz.underlying44 M N ad.out ae.out (by simp only[List.map_toArray,List.map_cons,List.map_nil];exact ai.out _) ?_;exact⟨_,rfl,aD.alloc _,⟨_,rfl,(Je w' (Kz (Ka y)).cells.toArray 119 7 1 rfl).any⟩,trivial⟩
              all_goals
               clear j n m k;refine aj ?_;go_simp;exact⟨_,rfl,al⟩
             ·intro u w' l j k;have m:u 0=_:=j 0 (by omega);obtain⟨g9,R,S⟩:=j 14 (by omega);clear j k;simp only[bH,bI,bJ,bK,ay,Act.put,bL,bM,bN,dD,dE,Nat.reduceAdd,Nat.zero_add,m,R];have s:=af (s.out.behind l);have ac:=af S;clear l m R S;refine iE _ rfl _ _ 44 rfl 119 U di 7 80 Tryz.underlying44 M N Q ap rfl (by decide) _ _ _ rfl s.out.own _ _ 1 1 _ rfl ac.out (KV _) (by have:=aL.out;omega) (by decide) ?_;intro v9 ax F;have aq:Hid (bW 119 7 w1 (.slice none 0 0) ax v9 (done.length+1) (done.flatMap CV.cells++(Kz (Ka y)).cells)):=s.out.trans F;obtain⟨a5,be,a8,rfl,_,_⟩:=aU F.own;clear F s;go_wp2;go_roundw;case rel=>exact⟨_,_,_,_,_,_,_,_,done++[Kz (Ka y)],rfl,rfl,ab.out.tail,V.out.tail,by rw[←aA.out,J.out,List.append_assoc];rfl,by rw[bh,List.flatMap_append,List.flatMap_singleton];exact aq.out⟩
              case measure=>simp only[KL];omega
         ·have ch:(x.v.toList==y.v.toList)=true:=by rw[LY];exact I
          have J:=af (Lc (ra:=ra) (rb:=rb) aH I);clear I aH;go_upto_region 11 with fail;refine aC 8 ag [Is (.slice (some G) P X),Is (.pointer (some G)),Is (.pointer (some ⟨x.g,0,none⟩)),Is (.slice (some p) K O),Is (.pointer (some p)),Is (.pointer (some ⟨y.g,0,none⟩)),Is (.bool true),Is (.bool true)] [] (fun _=>True) (fun _ _=>false) (by kernel_rfl) (by kernel_rfl) (by kernel_rfl) (by kernel_rfl) ⟨Is.ah _,Is.ah _,Is.ah _,Is.ah _,Is.ah _,Is.ah _,Is.ah _,Is.ah _,trivial⟩ trivial (fun _ _ _ _ h=>h) trivial ?_ ?_
          ·refine⟨?zDE,?zA6,?zA7,?zDF,?zA8,?zA9,?zAA,?zAB,trivial⟩;all_goals intro u w' d l j n m k
           all_goals simp only[bH,bI,bJ,bK,ay,Act.put,bL,bM,bN,Nat.reduceAdd,Nat.zero_add]
           case' zA6=>simp only[show u 0=_ from j 0]
           case zA7=>
            simp only[show u 1=_ from j 1];clear j n m k;refine aj ?_;have q:=l.an E.out (fun x=>x);go_simp;exact⟨_,rfl,al⟩
           case' zA8=>simp only[show u 3=_ from j 3]
           case zA9=>
            simp only[show u 4=_ from j 4];clear j n m k;refine aj ?_;have q:=l.an t.out (fun x=>x);go_simp;exact⟨_,rfl,al⟩
           case zAA=>
            simp only[show u 2=_ from j 2,show u 5=_ from j 5];clear j n m k;refine aj ?_;have q:=K6 (some ⟨x.g,0,none⟩) (some ⟨y.g,0,none⟩) w' (aa.out.ar (T.out.trans l)) (W.out.ar (T.out.trans l)) true Y;go_simp;exact⟨_,rfl,al⟩
           case' zAB=>simp only[show u 6=_ from j 6]
           all_goals
            clear j n m k;refine aj ?_;go_simp;exact⟨_,rfl,al⟩
          ·intro u w' l j k;have z:u 7=_:=j 7 (by omega);clear j k;simp only[bH,bI,bJ,bK,ay,Act.put,bL,bM,bN,dD,dE,Nat.reduceAdd,Nat.zero_add,z];have o:=af l;clear l z;have s:=af (s.out.behind o.out);have E:Hid (w'.cell? G=some (.pointer (some ⟨x.g,0,none⟩))):=o.out.an E.out (fun x=>x);have H:Hid (Mid w' x.g x.nm x.v):=H.out.ar o.out;have t:Hid (w'.cell? p=some (.pointer (some ⟨y.g,0,none⟩))):=o.out.an t.out (fun x=>x);have C:Hid (Mid w' y.g y.nm y.v):=C.out.ar o.out;clear o;generalize w'=wr at*;go_upto_region 12 with fail;refine aC 14 ag [Is (.slice (some G) P X),Is (.pointer (some G)),Is (.pointer (some ⟨x.g,0,none⟩)),Is (.pointer (some ⟨x.g,0,none⟩)),Is (.pointer (some ⟨x.g,2,none⟩)),Is (.agg x.nm.cells.toArray),Is (.slice (some p) K O),Is (.pointer (some p)),Is (.pointer (some ⟨y.g,0,none⟩)),Is (.pointer (some ⟨y.g,0,none⟩)),Is (.pointer (some ⟨y.g,2,none⟩)),Is (.agg y.nm.cells.toArray),Is (.int .i64 0),Is (.int .i64 0)] [] (fun _=>True) (fun _ _=>false) (by kernel_rfl) (by kernel_rfl) (by kernel_rfl) (by kernel_rfl) ⟨Is.ah _,Is.ah _,Is.ah _,Is.ah _,Is.ah _,Is.ah _,Is.ah _,Is.ah _,Is.ah _,Is.ah _,Is.ah _,Is.ah _,Is.ah _,Is.ah _,trivial⟩ trivial (fun _ _ _ _ h=>h) trivial ?_ ?_
           ·refine⟨?zDG,?zAC,?zAD,?zAE,?zAF,?zAG,?zDH,?zAH,?zAI,?zAJ,?xI,?xJ,?xK,?xL,trivial⟩;all_goals intro u w' d l j n m k
            all_goals simp only[bH,bI,bJ,bK,ay,Act.put,bL,bM,bN,Nat.reduceAdd,Nat.zero_add]
            case' zAC=>simp only[show u 0=_ from j 0]
            case zAD=>
             simp only[show u 1=_ from j 1];clear j n m k;refine aj ?_;have q:=l.an E.out (fun x=>x);go_simp;exact⟨_,rfl,al⟩
            case' zAE=>simp only[show u 2=_ from j 2]
            case' zAF=>simp only[show u 3=_ from j 3]
            case zAG=>
             simp only[show u 4=_ from j 4];clear j n m k;refine aj ?_;exact az _ _ rfl ⟨x.g,2,none⟩ rfl x.nm.cells _ (fun L v I=>by rw[Addr.add_mid];exact(H.out.ar l).name L v I) Tryz.underlying106 rfl bD ⟨_,rfl,al⟩
            case' zAH=>simp only[show u 6=_ from j 6]
            case zAI=>
             simp only[show u 7=_ from j 7];clear j n m k;refine aj ?_;have q:=l.an t.out (fun x=>x);go_simp;exact⟨_,rfl,al⟩
            case' zAJ=>simp only[show u 8=_ from j 8]
            case' xI=>simp only[show u 9=_ from j 9]
            case xJ=>
             simp only[show u 10=_ from j 10];clear j n m k;refine aj ?_;exact az _ _ rfl ⟨y.g,2,none⟩ rfl y.nm.cells _ (fun L v I=>by rw[Addr.add_mid];exact(C.out.ar l).name L v I) Tryz.underlying106 rfl bD ⟨_,rfl,al⟩
            case xK=>
             simp only[show u 5=_ from j 5,show u 11=_ from j 11];clear j n m k;refine aj ?_;go_simp;refine(a6.out _).mono ?_;rintro e bZ⟨rfl,f4⟩;exact⟨_,rfl,f4.bP,rfl,trivial⟩
            case' xL=>simp only[show u 12=_ from j 12]
            all_goals
             clear j n m k;refine aj ?_;go_simp;exact⟨_,rfl,al⟩
           ·intro u w' l j k;have z:u 13=_:=j 13 (by omega);clear j k;simp only[bH,bI,bJ,bK,ay,Act.put,bL,bM,bN,dD,dE,Nat.reduceAdd,Nat.zero_add,z];have o:=af l;clear l z;have s:=af (s.out.behind o.out);have E:Hid (w'.cell? G=some (.pointer (some ⟨x.g,0,none⟩))):=o.out.an E.out (fun x=>x);have H:Hid (Mid w' x.g x.nm x.v):=H.out.ar o.out;have t:Hid (w'.cell? p=some (.pointer (some ⟨y.g,0,none⟩))):=o.out.an t.out (fun x=>x);have C:Hid (Mid w' y.g y.nm y.v):=C.out.ar o.out;clear o;generalize w'=wr at*;go_upto_region 15 with fail;refine aC 18 ag [Is (.int .i64 0),Is (.bool false),Is (.bool false),Is (.slice (some G) P X),Is (.pointer (some G)),Is (.pointer (some ⟨x.g,0,none⟩)),Is (.pointer (some ⟨x.g,0,none⟩)),Is (.pointer (some ⟨x.g,7,none⟩)),Is (.string x.v),Is (.slice (some p) K O),Is (.pointer (some p)),Is (.pointer (some ⟨y.g,0,none⟩)),Is (.pointer (some ⟨y.g,0,none⟩)),Is (.pointer (some ⟨y.g,7,none⟩)),Is (.string y.v),Is (.bool false),Is (.bool false),Is (.bool false)] [] (fun _=>True) (fun _ _=>false) (by kernel_rfl) (by kernel_rfl) (by kernel_rfl) (by kernel_rfl) ⟨Is.ah _,Is.ah _,Is.ah _,Is.ah _,Is.ah _,Is.ah _,Is.ah _,Is.ah _,Is.ah _,Is.ah _,Is.ah _,Is.ah _,Is.ah _,Is.ah _,Is.ah _,Is.ah _,Is.ah _,Is.ah _,trivial⟩ trivial (fun _ _ _ _ h=>h) trivial ?_ ?_
            ·refine⟨?zDI,?zB0,?zB1,?zB2,?zB3,?zB4,?zB5,?zB6,?zB7,?zB8,?xM,?xN,?xO,?xP,?xQ,?xR,?xS,?xT,trivial⟩;all_goals intro u w' d l j n m k
             all_goals simp only[bH,bI,bJ,bK,ay,Act.put,bL,bM,bN,Nat.reduceAdd,Nat.zero_add]
             case' zB0=>simp only[show u 0=_ from j 0]
             case' zB1=>simp only[show u 1=_ from j 1]
             case' zB2=>simp only[show u 2=_ from j 2]
             case' zB3=>simp only[show u 3=_ from j 3,show u 2=_ from j 2]
             case zB4=>
              simp only[show u 4=_ from j 4,show u 2=_ from j 2];clear j n m k;refine aj ?_;have q:=l.an E.out (fun x=>x);go_simp;exact⟨_,rfl,al⟩
             case' zB5=>simp only[show u 5=_ from j 5,show u 2=_ from j 2]
             case' zB6=>simp only[show u 6=_ from j 6,show u 2=_ from j 2]
             case zB7=>
              simp only[show u 7=_ from j 7,show u 2=_ from j 2];clear j n m k;refine aj ?_;have q:=(H.out.ar l).val;go_simp;exact⟨_,rfl,al⟩
             case' zB8=>simp only[show u 2=_ from j 2]
             case' xM=>simp only[show u 9=_ from j 9,show u 2=_ from j 2]
             case xN=>
              simp only[show u 10=_ from j 10,show u 2=_ from j 2];clear j n m k;refine aj ?_;have q:=l.an t.out (fun x=>x);go_simp;exact⟨_,rfl,al⟩
             case' xO=>simp only[show u 11=_ from j 11,show u 2=_ from j 2]
             case' xP=>simp only[show u 12=_ from j 12,show u 2=_ from j 2]
             case xQ=>
              simp only[show u 13=_ from j 13,show u 2=_ from j 2];clear j n m k;refine aj ?_;have q:=(C.out.ar l).val;go_simp;exact⟨_,rfl,al⟩
             case' xR=>simp only[show u 8=_ from j 8,show u 14=_ from j 14,show u 2=_ from j 2]
             case' xS=>simp only[show u 2=_ from j 2,show u 15=_ from j 15]
             case' xT=>simp only[show u 16=_ from j 16]
             all_goals
              clear j n m k;refine aj ?_;go_simp;exact⟨_,rfl,al⟩
            ·intro u w' l j k;have z:u 17=_:=j 17 (by omega);clear j k;simp only[bH,bI,bJ,bK,ay,Act.put,bL,bM,bN,dD,dE,Nat.reduceAdd,Nat.zero_add,z];have o:=af l;clear l z;have s:=af (s.out.behind o.out);have E:Hid (w'.cell? G=some (.pointer (some ⟨x.g,0,none⟩))):=o.out.an E.out (fun x=>x);have H:Hid (Mid w' x.g x.nm x.v):=H.out.ar o.out;have t:Hid (w'.cell? p=some (.pointer (some ⟨y.g,0,none⟩))):=o.out.an t.out (fun x=>x);have C:Hid (Mid w' y.g y.nm y.v):=C.out.ar o.out;clear o;generalize w'=wr at*;go_wp2;go_roundw;case rel=>exact⟨_,_,_,_,_,_,_,_,done,rfl,rfl,ab.out.tail,V.out.tail,by rw[←aA.out,J.out],s.out⟩
             case measure=>simp only[KL];omega
end Go.Proofs.YtphjagkehiklkaaGreatDoor
