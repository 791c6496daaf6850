/- Texts. -/
import Derived.Shelf.SlMaps.Clone
import Derived.Test.YtphjagkehiklkaaGreatDoorYK21
set_option linter.unusedVariables false
set_option linter.unusedSimpArgs false
set_option maxRecDepth 100000
set_option maxHeartbeats 4000000
namespace Go.Proofs.YtphjagkehiklkaaGreatDoor
open Go.RowKit Go.ChangeShapes Go.WideShapes Go.Deep
structure pE where
 index:Int
 len:Int
 text:ByteArray
 cut:Int
 at_:Int
 BV:Int
def pE.cells(p:pE):List Value:=[Value.int .i64 p.index, .int .i64 p.len, .string p.text, .int .u8 p.cut, .int .u8 p.at_, .int .u8 p.BV]
def pE.val(p:pE):Value:= .agg p.cells.toArray
structure pE.kE(p:pE):Prop where
 index:-9223372036854775808≤p.index∧p.index≤9223372036854775807
 len:-9223372036854775808≤p.len∧p.len≤9223372036854775807
 text:p.text.size≤9223372036854775807
 cut:0≤p.cut∧p.cut≤255
 at_:0≤p.at_∧p.at_≤255
 BV:0≤p.BV∧p.BV≤255
theorem Fm:Tryz.prog.cellsOf 60=6:=by kernel_rfl
theorem yI{H:Type}{enc:TypeId×Value→H}{w:World}{r:Reach}{b fuel:Nat}{v:Value}{x:DataW H×List MemPlace}(a:Value.okWide Tryz.prog w r b 60 v)
  (h:DataW.trod enc Tryz.prog w 0 (fun _=>true) true fuel 60 v.cells.toList=some x):∃p:pE,v=p.val∧p.kE:=by
 unfold Value.okWide at a;rw[Tryz.underlying60]at a;obtain⟨⟨l⟩,rfl,_,_⟩:=a;have o:DataW.trod enc Tryz.prog w 0 (fun _=>true) true fuel 60 l=some x:=h;obtain⟨z,A,_,rfl,d,e,c⟩:=DataW.trod_struct Tryz.underlying60 o;rw[Fm]at d;match l,d with
 |[B,C,D,x3,E,F],_=>
  have g0:=c 0 _ rfl;have g1:=c 1 _ rfl;have g2:=c 2 _ rfl;have g3:=c 3 _ rfl;have g4:=c 4 _ rfl;have g5:=c 5 _ rfl;match z,e with
  |[G,I,J,y3,y4,K],_=>
   simp[pf,pg,qS]at g0 g1 g2 g3 g4 g5;obtain⟨a0,f,rfl,b0⟩:=DataW.trod_int Tryz.underlying3 g0;obtain⟨n,g,rfl,b1⟩:=DataW.trod_int Tryz.underlying3 g1;obtain⟨a2,i,rfl,b2⟩:=DataW.trod_string Tryz.underlying9 g2;obtain⟨a3,j,rfl,b3⟩:=DataW.trod_int Tryz.underlying5 g3;obtain⟨a4,k,rfl,b4⟩:=DataW.trod_int Tryz.underlying5 g4;obtain⟨a5,m,rfl,b5⟩:=DataW.trod_int Tryz.underlying5 g5;simp only[List.cons.injEq,and_true]at f g i j k m;subst f g i j k m;have q:=bounds_i64 b0;have s:=bounds_i64 b1;have t:=bounds_u8 b3;have u:=bounds_u8 b4;have y:=bounds_u8 b5;exact⟨⟨a0,n,a2,a3,a4,a5⟩,rfl,⟨q,s,by have:=b2;unfold maxLen at this;exact this,t,u,y⟩⟩
def Ej:Value:= .agg #[.int .i64 0, .int .i64 0, .string ByteArray.empty, .int .u8 0, .int .u8 0, .int .u8 0]
def KR{H:Type}:DataW H:= .agg [.lit (.int .i64 0), .lit (.int .i64 0), .lit (.string []), .lit (.int .u8 0), .lit (.int .u8 0), .lit (.int .u8 0)]
end Go.Proofs.YtphjagkehiklkaaGreatDoor
namespace Go.Proofs.YtphjagkehiklkaaGreatDoor.Lt
open Go.RowKit
structure im(w:World)(S:Nat→Prop)(A:Option Addr)(a:List DP):Prop where
 rd:Rd w S 64 A a.length (a.flatMap dR)
 each:∀p∈a,p.1.length=32∧p.2.length=32
 lt:∀k,S k→k<w.heap.size
theorem im.aq{w w':World}{S:Nat→Prop}{A:Option Addr}{b:List DP}(h:im w S A b)(a:Fr ag w w'):im w' S A b:=⟨h.rd.aq a,h.each,fun k c=>Nat.lt_of_lt_of_le (h.lt k c) a.size⟩
theorem im.fr{w w':World}{S T:Nat→Prop}{A:Option Addr}{b:List DP}(h:im w S A b)(a:Fr T w w')(c:∀k,S k→¬T k):im w' S A b:=⟨h.rd.fr a c,h.each,fun k d=>Nat.lt_of_lt_of_le (h.lt k d) a.size⟩
theorem GB(b:List DP)(h:∀p∈b,p.1.length=32∧p.2.length=32):∀(k:Nat)(p:DP),b[k]? =some p→∀j v,(dR p)[j]? =some v→(b.flatMap dR)[k*64+j]? =some v:=by
 induction b with
 |nil=>intro k p a;cases a
 |cons q r g=>
  intro k p a j v d;have i:(dR q).length=64:=mH (h q (by simp));rcases k with _|k
  ·obtain rfl:q=p:=by simpa using a
   have e:=(List.getElem?_eq_some_iff.1 d).1;rw[List.flatMap_cons,Nat.zero_mul,Nat.zero_add,List.getElem?_append_left e];exact d
  ·have c:r[k]? =some p:=by simpa using a
   rw[List.flatMap_cons,List.getElem?_append_right (by omega),show(k+1)*64+j-(dR q).length=k*64+j by omega];exact g (fun x f=>h x (by simp[f])) k p c j v d
theorem im.at_{w:World}{S:Nat→Prop}{A:Option Addr}{b:List DP}(h:im w S A b){k:Nat}(d:k<b.length):∃a,A=some a∧∀j v,(dR (b.getD k ([],[])))[j]? =some v→w.cell? ((a.add (k*64)).add j)=some v:=by
 obtain⟨a,e,_,c⟩:=h.rd.2 (by omega);refine⟨a,e,fun j v f=>?_⟩;rw[gD];exact c _ v (GB b h.each k _ (by rw[List.getD_eq_getElem?_getD,List.getElem?_eq_getElem d];rfl) j v f)
theorem im.iA{w w':World}{v:Value}{a:List DP}{n:Nat}(h:bW 139 64 w (.slice none 0 0) w' v n (a.flatMap dR))(d:a.length=n)(he:∀p∈a,p.1.length=32∧p.2.length=32):∃A c,v= .slice A n c∧im w' (gj (.slice A n c)) A a∧Fr ag w w':=by
 obtain⟨A,c,rfl,f⟩:=qi h.own;refine⟨A,c,rfl,⟨by rw[d];exact Rd.gO h.own,he,fun k b=>?_⟩,h.aq⟩;obtain⟨g,e,_⟩:=cM h.own b;exact(Array.getElem?_eq_some_iff.1 e).1
theorem eY{w:World}{g:Nat}{t:TypeId}{L:List Value}{v:Value}(h:ao w g t (L++[v]).toArray)(b:L.length=32):w.cell? ⟨g,32,none⟩=some v∧∀j u,L[j]? =some u→w.cell? ((⟨g,0,none⟩:Addr).add j)=some u:=by
 refine⟨?_,fun j u hu=>?_⟩;·rw[h.cell,bD,List.getElem?_append_right (by omega),b];rfl
 ·have a:=(List.getElem?_eq_some_iff.1 hu).1;rw[Addr.add_mid,Nat.zero_add,h.cell,bD,List.getElem?_append_left a];exact hu
theorem equalD(d:Nat)(w:World)(l r:List UInt8)(b:l.length=32)(c:r.length=32):(Op.equalIn (d+2) 38 (.agg (ar l).toArray) (.agg (ar r).toArray)).run Tryz.prog w= .ok (decide (l=r)) w:=by
 obtain⟨i,a⟩:=Option.isSome_iff_exists.1 Eo;unfold ar;rw[run_equalIn_array w (d+1) _ _ Tryz.underlying38 a,qS,qu w d l r b c _ (fun i a=>List.mem_range.1 a),wZ l r b c]
theorem yJ:(Tryz.prog.fieldsOf 139).toList.map (fun f=>(f.name,f.type,f.offset))=[("left",38,0),("right",38,32)]:=by kernel_rfl
theorem Ep(w:World):(isAgg 38).run Tryz.prog w= .ok true w:=by kernel_rfl
theorem Jg(w:World):(sizeOf 38).run Tryz.prog w= .ok 32 w:=by kernel_rfl
theorem IV(w:World)(a b:List Value)(c:a.length=32):(part 38 (a++b).toArray 0).run Tryz.prog w= .ok (.agg a.toArray) w:=by
 unfold part;simp only[Sem.run_bind,Ep,Result.andThen_ok,if_true,Jg,Sem.run_pure,Nat.zero_add];congr 2;simp[c]
theorem Eu(w:World)(a b:List Value)(d:a.length=32)(e:b.length=32):(part 38 (a++b).toArray 32).run Tryz.prog w= .ok (.agg b.toArray) w:=by
 unfold part;simp only[Sem.run_bind,Ep,Result.andThen_ok,if_true,Jg,Sem.run_pure];have c:b.take 32=b:=List.take_of_length_le (by omega);congr 2;simp[d,c]
theorem vX{P:Program}(w:World)(d:Nat)(xs c:Array Value)(f1 f2:Field)(e g f h:Value)(a b:Bool)(k:f1.name≠ "_")(l:f2.name≠ "_")
  (m:(part f1.type xs f1.offset).run P w= .ok e w)(o:(part f1.type c f1.offset).run P w= .ok g w)(n:(part f2.type xs f2.offset).run P w= .ok f w)(p:(part f2.type c f2.offset).run P w= .ok h w)
  (i:(Op.equalIn d f1.type e g).run P w= .ok a w)(j:(Op.equalIn d f2.type f h).run P w= .ok b w):(Op.eqFields d xs c [f1,f2]).run P w= .ok (a&&b) w:=by
 simp only[Op.eqFields,k,l,ne_eq,not_false_eq_true,if_true,Sem.run_bind,m,o,Result.andThen_ok,i];cases a;·simp
 ·simp only[Bool.not_true,Bool.false_eq_true,if_false,Sem.run_bind,n,p,Result.andThen_ok,j,Bool.true_and];cases b;·simp
  ·simp
theorem yS(d:Nat)(w:World)(a b:DP)(c:a.1.length=32∧a.2.length=32)(e:b.1.length=32∧b.2.length=32)(i:List Field)(g:i.map (fun f=>(f.name,f.type,f.offset))=[("left",38,0),("right",38,32)]):
  (Op.eqFields (d+2) (dR a).toArray (dR b).toArray i).run Tryz.prog w= .ok (decide (a=b)) w:=by
 have dl:∀l:List UInt8,l.length=32→(ar l).length=32:=fun l h=>by rw[ar,List.length_map,h]
 rcases i with _|⟨f1,_|⟨f2,_|⟨f3,fr⟩⟩⟩;·cases g
 ·simp at g
 ·simp only[List.map_cons,List.map_nil,List.cons.injEq,Prod.mk.injEq,and_true]at g;obtain⟨⟨n1,t1,k⟩,n,t2,m⟩:=g;have o:f1.name≠ "_":=by rw[n1];decide
  have p:f2.name≠ "_":=by rw[n];decide
  have j:decide (a=b)=(decide (a.1=b.1)&&decide (a.2=b.2)):=by
   rw[Bool.eq_iff_iff];simp[Prod.ext_iff]
  rw[j];refine vX w (d+2) _ _ f1 f2 (.agg (ar a.1).toArray) (.agg (ar b.1).toArray) (.agg (ar a.2).toArray) (.agg (ar b.2).toArray) _ _ o p ?_ ?_ ?_ ?_ ?_ ?_;·rw[t1,k];exact IV w _ _ (dl _ c.1)
  ·rw[t1,k];exact IV w _ _ (dl _ e.1)
  ·rw[t2,m];exact Eu w _ _ (dl _ c.1) (dl _ c.2)
  ·rw[t2,m];exact Eu w _ _ (dl _ e.1) (dl _ e.2)
  ·rw[t1];exact equalD d w a.1 b.1 c.1 e.1
  ·rw[t2];exact equalD d w a.2 b.2 c.2 e.2
 ·simp at g
theorem tu(w:World)(a b:DP)(c:a.1.length=32∧a.2.length=32)(d:b.1.length=32∧b.2.length=32):
  (Op.equalIn 10000 139 (.agg (dR a).toArray) (.agg (dR b).toArray)).run Tryz.prog w= .ok (decide (a=b)) w:=by
 have f:Tryz.prog.underlying 139=some (.struct (Tryz.prog.fieldsOf 139)):=by kernel_rfl
 have e:Tryz.prog.stoodInHeld 139=false:=by kernel_rfl
 exact(run_equalIn_agg w 9999 _ _ _ f e).trans (yS 9997 w a b c d _ yJ)
theorem I7(w:World)(a b:DP)(c:a.1.length=32∧a.2.length=32)(d:b.1.length=32∧b.2.length=32):
  (binOp .neq 139 (.agg (dR a).toArray) (.agg (dR b).toArray)).run Tryz.prog w= .ok (.bool (!decide (a=b))) w:=by
 have:=tu w a b c d;rw[run_neq_struct,this];rfl
theorem rk(leaf:List UInt8)(b:leaf.length=32)(index n:Int)(path:List (List UInt8))(he:∀d∈path,d.length=32):∀p∈(bj leaf index n path).2.1,p.1.length=32∧p.2.length=32:=by
 unfold bj;split
 ·split;·rename_i h;exact(jA leaf b path he _ _ rfl (by omega)).each
  ·intro p a;cases a
 ·intro p a;cases a
theorem j4(leaf:List UInt8)(a:leaf.length=32)(index n:Int)(path:List (List UInt8))(he:∀d∈path,d.length=32):(bj leaf index n path).2.2=0→(bj leaf index n path).2.1.length=(bw index.toNat n.toNat).length∧(bw index.toNat n.toNat).length=path.length:=by
 unfold bj;split
 ·split;·rename_i h;exact fun _=>⟨(jA leaf a path he _ _ rfl (by omega)).count,h.symm⟩
  ·intro h;simp at h
 ·intro h;simp at h
theorem tX(aW lb:List UInt8)(aN:aW.length=32)(aO:lb.length=32)(index n:Int)(cF:-9223372036854775808≤n∧n≤9223372036854775807)(bz b1:List (List UInt8))(bo nb:Nat)(br bs:Option Addr)(bW bX:Nat)(cV cW:Nat→Prop)(w:World)
  (aM:ed w cV br bo bz)(a4:ed w cW bs nb b1)(b0:bo≤1048576)(cm:nb≤1048576)(cM:bH w)(V cf:List UInt8×List DP×Int)(c2:V=bj aW index n bz)(cj:cf=bj lb index n b1)(r:List UInt8×List UInt8×Bool)(cP:r=je V.2.2 cf.2.2 V.1 cf.1 V.2.1 cf.2.1):
  Calls Tryz.prog 26 #[.int .i64 index, .int .i64 n, .agg (ar aW++[Value.slice br bo bW]).toArray, .agg (ar lb++[Value.slice bs nb bX]).toArray] w (aK w (.tuple #[.string ⟨r.1.toArray⟩, .string ⟨r.2.1.toArray⟩, .bool r.2.2])):=by
 have bB:Hid (∀w',Fr ag w w'→Calls Tryz.prog 77 #[aP aW, .int .i64 index, .int .i64 n, .slice br bo bW] w' (iG w' (bj aW index n bz))):=fun w' s=>lJ aW aN index n cF bz bo br bW cV w' (aM.aq s) b0 (cM.aq s);have b4:Hid (∀w',Fr ag w w'→Calls Tryz.prog 77 #[aP lb, .int .i64 index, .int .i64 n, .slice bs nb bX] w' (iG w' (bj lb index n b1))):=fun w' s=>lJ lb aO index n cF b1 nb bs bX cW w' (a4.aq s) cm (cM.aq s);have aS:=iy aW aN index n bz aM.each;have aU:=iy lb aO index n b1 a4.each;have cu:=rk aW aN index n bz aM.each;have cv:=rk lb aO index n b1 a4.each;have ad:=j4 aW aN index n bz aM.each;have ax:=j4 lb aO index n b1 a4.each;unfold iG at bB b4;rw[←c2]at bB aS cu ad;rw[←cj]at b4 aU cv ax;obtain⟨b2,f,cT⟩:=V;obtain⟨rb,q,cU⟩:=cf;simp only at bB b4 aS aU cu cv ad ax cP;have cr:Hid (∀p∈f,p.1.length=32∧p.2.length=32):=cu;have cE:Hid (∀p∈q,p.1.length=32∧p.2.length=32):=cv;have bq:Hid (∀w:World,(binOp .neq 38 (aP b2) (aP rb)).run Tryz.prog w= .ok (.bool (!decide (b2=rb))) w):=fun w=>AR w _ Tryz.underlying38 b2 rb aS aU;have a1:Hid ((ar aW).length=32):=by simp[Hid,ar,aN]
 have be:Hid ((ar lb).length=32):=by simp[Hid,ar,aO]
 have bc:Hid ((Tryz.prog.info? 38).map (·.size)=some (ar aW).length):=by rw[a1.out];exact ef
 have bQ:Hid ((Tryz.prog.info? 38).map (·.size)=some (ar lb).length):=by rw[be.out];exact ef
 have aV:Hid (cX (ar b2).toArray):=cX.of aS;have ba:Hid (cX (ar rb).toArray):=cX.of aU;have cd:Hid ((Tryz.prog.info? 38).map (·.size)=some (ar b2).length):=by rw[ar,List.length_map,aS];exact ef
 have ce:Hid ((Tryz.prog.info? 38).map (·.size)=some (ar rb).length):=by rw[ar,List.length_map,aU];exact ef
 have bu:=af cP;have cA:Hid (bz.length≤1048576):=by simp only[Hid];rw[aM.len];exact b0
 clear aN aO aM a4 cM aS aU cu cv cP c2 cj b0 cm cF;unfold aP at*;simp only[show∀l:List UInt8,l.map aT=ar l from fun _=>rfl]at*;generalize ar aW=bv at*;generalize ar lb=bU at*;generalize cK:ar b2=a7 at*;generalize cL:ar rb=bf at*;clear cK cL;by_cases bm:cT=0;case neg=>
  have t1:(cT !=0)=true:=by rw[bne_iff_ne];exact bm
  have ab:Hid (r=([],[],false)):=by
   simp only[Hid];rw[bu.out,je,if_neg (fun h=>bm h.1)]
  clear ad ax bm bu;go_enter Tryz.func26,Tryz.ntmps26;go_wp2_with(refine ay rfl 64 (.tmp 2) rfl _ rfl ?_);intro w1 n1;have av:=af n1;clear n1;go_wp2_with(refine ay rfl 64 (.tmp 3) rfl _ rfl ?_);intro w2 W;have aX:Hid (ao w2 w.heap.size 64 (bv++[Value.slice br bo bW]).toArray):=av.out.aF.fr W.fr (fun x=>x);have aY:Hid (ao w2 w1.heap.size 64 (bU++[Value.slice bs nb bX]).toArray):=W.aF;have am:=af (av.out.fr.trans W.fr);clear W av;generalize w.heap.size=g6 at*;generalize w1.heap.size=g7 at*;obtain⟨bV,a5⟩:=eY aX.out a1.out;go_wp2_with(refine aB rfl 38 (.tmp 18) rfl ⟨g6,0,none⟩ rfl bv _ a5 Tryz.underlying38 rfl bc.out ?_);go_wp2_with fail;refine(bB.out _ am.out).mono ?_;rintro e X⟨v,rfl,O⟩;obtain⟨a6,aL,rfl,a2,f3⟩:=im.iA O rfl cr.out;have A:=af a2;have ap:=af (am.out.trans f3);have z:=af (aY.out.fr f3 (fun x=>x));clear O a2 f3 aX aY bV a5 am;go_wp2_with(refine ak rfl 38 rfl aR fV aD rfl ?_);intro cn n4;have D:=af n4.aF;have aZ:=af (ap.out.trans n4.fr);have E:=af (z.out.fr n4.fr (fun x=>x));have F:=af (A.out.aq n4.fr);have T:Hid (w.heap.size≤X.heap.size∧g7<X.heap.size∧(∀k,gj (Value.slice a6 f.length aL) k→k<X.heap.size)):=⟨ap.out.size,z.out.lt,A.out.lt⟩;clear n4 ap z A;generalize X.heap.size=g11 at*;go_wp2_with(refine ai rfl 38 (.tmp 11) _ rfl g11 a7.toArray rfl rfl _ _ D.out aV.out.info aV.out.zero aV.out.one ?_);intro b3 b5 f5;have S:=af b5;have aG:Hid (Fr ag w b3):=aZ.out.aw f5 (fun i b9 e=>by have K:i=g11:=e;have:=T.out.1;omega);have Q:=af (E.out.fr f5 (fun e=>by have K:g7=g11:=e;have:=T.out.2.1;omega));have R:=af (F.out.fr f5 (fun k P e=>by have K:k=g11:=e;have:=T.out.2.2 k P;omega));clear b5 f5 aZ D E F T;go_wp2;go_ret3;rw[ab.out];exact⟨rfl,aG.out⟩
 subst bm;by_cases bn:cU=0;case neg=>
  have t1:(cU !=0)=true:=by rw[bne_iff_ne];exact bn
  have ab:Hid (r=([],[],false)):=by
   simp only[Hid];rw[bu.out,je,if_neg (fun h=>bn h.2.1)]
  clear ad ax bn bu;go_enter Tryz.func26,Tryz.ntmps26;go_wp2_with(refine ay rfl 64 (.tmp 2) rfl _ rfl ?_);intro w1 n1;have av:=af n1;clear n1;go_wp2_with(refine ay rfl 64 (.tmp 3) rfl _ rfl ?_);intro w2 W;have aX:Hid (ao w2 w.heap.size 64 (bv++[Value.slice br bo bW]).toArray):=av.out.aF.fr W.fr (fun x=>x);have aY:Hid (ao w2 w1.heap.size 64 (bU++[Value.slice bs nb bX]).toArray):=W.aF;have am:=af (av.out.fr.trans W.fr);clear W av;generalize w.heap.size=g6 at*;generalize w1.heap.size=g7 at*;obtain⟨bV,a5⟩:=eY aX.out a1.out;go_wp2_with(refine aB rfl 38 (.tmp 18) rfl ⟨g6,0,none⟩ rfl bv _ a5 Tryz.underlying38 rfl bc.out ?_);go_wp2_with fail;refine(bB.out _ am.out).mono ?_;rintro e X⟨v,rfl,O⟩;obtain⟨a6,aL,rfl,a2,f3⟩:=im.iA O rfl cr.out;have A:=af a2;have ap:=af (am.out.trans f3);have z:=af (aY.out.fr f3 (fun x=>x));clear O a2 f3 aX aY bV a5 am;go_wp2_with(refine ak rfl 38 rfl aR fV aD rfl ?_);intro cn n4;have D:=af n4.aF;have aZ:=af (ap.out.trans n4.fr);have E:=af (z.out.fr n4.fr (fun x=>x));have F:=af (A.out.aq n4.fr);have T:Hid (w.heap.size≤X.heap.size∧g7<X.heap.size∧(∀k,gj (Value.slice a6 f.length aL) k→k<X.heap.size)):=⟨ap.out.size,z.out.lt,A.out.lt⟩;clear n4 ap z A;generalize X.heap.size=g11 at*;go_wp2_with(refine ai rfl 38 (.tmp 11) _ rfl g11 a7.toArray rfl rfl _ _ D.out aV.out.info aV.out.zero aV.out.one ?_);intro b3 b5 f5;have S:=af b5;have aG:Hid (Fr ag w b3):=aZ.out.aw f5 (fun i b9 e=>by have K:i=g11:=e;have:=T.out.1;omega);have Q:=af (E.out.fr f5 (fun e=>by have K:g7=g11:=e;have:=T.out.2.1;omega));have R:=af (F.out.fr f5 (fun k P e=>by have K:k=g11:=e;have:=T.out.2.2 k P;omega));clear b5 f5 aZ D E F T;obtain⟨cg,bA⟩:=eY Q.out be.out;go_wp2_with(refine aB rfl 38 (.tmp 31) rfl ⟨g7,0,none⟩ rfl bU _ bA Tryz.underlying38 rfl bQ.out ?_);go_wp2_with fail;refine(b4.out _ aG.out).mono ?_;rintro e ae⟨v,rfl,O⟩;obtain⟨ca,bx,rfl,bw,f6⟩:=im.iA O rfl cE.out;have H:=af bw;have a0:=af (aG.out.trans f6);have t:=af (S.out.fr f6 (fun x=>x));have G:=af (R.out.aq f6);clear O bw f6 Q cg bA aG S R;go_wp2_with(refine ak rfl 38 rfl aR fV aD rfl ?_);intro c6 n7;have Y:=af n7.aF;have bt:=af (a0.out.trans n7.fr);have C:=af (t.out.fr n7.fr (fun x=>x));have Z:=af (G.out.aq n7.fr);have aa:=af (H.out.aq n7.fr);have ac:Hid (w.heap.size≤ae.heap.size∧g11<ae.heap.size∧(∀k,gj (Value.slice a6 f.length aL) k→k<ae.heap.size)∧(∀k,gj (Value.slice ca q.length bx) k→k<ae.heap.size)):=⟨a0.out.size,t.out.lt,G.out.lt,H.out.lt⟩;clear n7 a0 t G H;generalize ae.heap.size=g14 at*;go_wp2_with(refine ai rfl 38 (.tmp 14) _ rfl g14 bf.toArray rfl rfl _ _ Y.out ba.out.info ba.out.zero ba.out.one ?_);intro co b8 f8;have aJ:=af b8;have bE:Hid (Fr ag w co):=bt.out.aw f8 (fun i b9 e=>by have K:i=g14:=e;have:=ac.out.1;omega);have M:=af (C.out.fr f8 (fun e=>by have K:g11=g14:=e;have:=ac.out.2.1;omega));have aH:=af (Z.out.fr f8 (fun k P e=>by have K:k=g14:=e;have:=ac.out.2.2.1 k P;omega));have aI:=af (aa.out.fr f8 (fun k P e=>by have K:k=g14:=e;have:=ac.out.2.2.2 k P;omega));clear b8 f8 bt Y C Z aa ac;go_wp2;go_ret3;rw[ab.out];exact⟨rfl,bE.out⟩
 subst bn;by_cases B:b2=rb;case neg=>
  have qr:Hid (∀w:World,(binOp .neq 38 (.agg a7.toArray) (.agg bf.toArray)).run Tryz.prog w= .ok (.bool true) w):=fun w=>by
   rw[bq.out,decide_eq_false B];rfl
  have ab:Hid (r=([],[],false)):=by
   simp only[Hid];rw[bu.out,je,if_neg (fun h=>B h.2.2)]
  clear ad ax B bu bq;go_enter Tryz.func26,Tryz.ntmps26;go_wp2_with(refine ay rfl 64 (.tmp 2) rfl _ rfl ?_);intro w1 n1;have av:=af n1;clear n1;go_wp2_with(refine ay rfl 64 (.tmp 3) rfl _ rfl ?_);intro w2 W;have aX:Hid (ao w2 w.heap.size 64 (bv++[Value.slice br bo bW]).toArray):=av.out.aF.fr W.fr (fun x=>x);have aY:Hid (ao w2 w1.heap.size 64 (bU++[Value.slice bs nb bX]).toArray):=W.aF;have am:=af (av.out.fr.trans W.fr);clear W av;generalize w.heap.size=g6 at*;generalize w1.heap.size=g7 at*;obtain⟨bV,a5⟩:=eY aX.out a1.out;go_wp2_with(refine aB rfl 38 (.tmp 18) rfl ⟨g6,0,none⟩ rfl bv _ a5 Tryz.underlying38 rfl bc.out ?_);go_wp2_with fail;refine(bB.out _ am.out).mono ?_;rintro e X⟨v,rfl,O⟩;obtain⟨a6,aL,rfl,a2,f3⟩:=im.iA O rfl cr.out;have A:=af a2;have ap:=af (am.out.trans f3);have z:=af (aY.out.fr f3 (fun x=>x));clear O a2 f3 aX aY bV a5 am;go_wp2_with(refine ak rfl 38 rfl aR fV aD rfl ?_);intro cn n4;have D:=af n4.aF;have aZ:=af (ap.out.trans n4.fr);have E:=af (z.out.fr n4.fr (fun x=>x));have F:=af (A.out.aq n4.fr);have T:Hid (w.heap.size≤X.heap.size∧g7<X.heap.size∧(∀k,gj (Value.slice a6 f.length aL) k→k<X.heap.size)):=⟨ap.out.size,z.out.lt,A.out.lt⟩;clear n4 ap z A;generalize X.heap.size=g11 at*;go_wp2_with(refine ai rfl 38 (.tmp 11) _ rfl g11 a7.toArray rfl rfl _ _ D.out aV.out.info aV.out.zero aV.out.one ?_);intro b3 b5 f5;have S:=af b5;have aG:Hid (Fr ag w b3):=aZ.out.aw f5 (fun i b9 e=>by have K:i=g11:=e;have:=T.out.1;omega);have Q:=af (E.out.fr f5 (fun e=>by have K:g7=g11:=e;have:=T.out.2.1;omega));have R:=af (F.out.fr f5 (fun k P e=>by have K:k=g11:=e;have:=T.out.2.2 k P;omega));clear b5 f5 aZ D E F T;obtain⟨cg,bA⟩:=eY Q.out be.out;go_wp2_with(refine aB rfl 38 (.tmp 31) rfl ⟨g7,0,none⟩ rfl bU _ bA Tryz.underlying38 rfl bQ.out ?_);go_wp2_with fail;refine(b4.out _ aG.out).mono ?_;rintro e ae⟨v,rfl,O⟩;obtain⟨ca,bx,rfl,bw,f6⟩:=im.iA O rfl cE.out;have H:=af bw;have a0:=af (aG.out.trans f6);have t:=af (S.out.fr f6 (fun x=>x));have G:=af (R.out.aq f6);clear O bw f6 Q cg bA aG S R;go_wp2_with(refine ak rfl 38 rfl aR fV aD rfl ?_);intro c6 n7;have Y:=af n7.aF;have bt:=af (a0.out.trans n7.fr);have C:=af (t.out.fr n7.fr (fun x=>x));have Z:=af (G.out.aq n7.fr);have aa:=af (H.out.aq n7.fr);have ac:Hid (w.heap.size≤ae.heap.size∧g11<ae.heap.size∧(∀k,gj (Value.slice a6 f.length aL) k→k<ae.heap.size)∧(∀k,gj (Value.slice ca q.length bx) k→k<ae.heap.size)):=⟨a0.out.size,t.out.lt,G.out.lt,H.out.lt⟩;clear n7 a0 t G H;generalize ae.heap.size=g14 at*;go_wp2_with(refine ai rfl 38 (.tmp 14) _ rfl g14 bf.toArray rfl rfl _ _ Y.out ba.out.info ba.out.zero ba.out.one ?_);intro co b8 f8;have aJ:=af b8;have bE:Hid (Fr ag w co):=bt.out.aw f8 (fun i b9 e=>by have K:i=g14:=e;have:=ac.out.1;omega);have M:=af (C.out.fr f8 (fun e=>by have K:g11=g14:=e;have:=ac.out.2.1;omega));have aH:=af (Z.out.fr f8 (fun k P e=>by have K:k=g14:=e;have:=ac.out.2.2.1 k P;omega));have aI:=af (aa.out.fr f8 (fun k P e=>by have K:k=g14:=e;have:=ac.out.2.2.2 k P;omega));clear b8 f8 bt Y C Z aa ac;go_upto_region 5 with fail;refine ft 7 ag [Is (.int .i64 0),Is (.bool false),Is (.bool false),Is (.agg a7.toArray),Is (.agg bf.toArray),Is (.bool true),Is (.bool true)] [] (fun _=>True) (fun _ _=>false) (by kernel_rfl) (by kernel_rfl) (by kernel_rfl) ⟨Is.ah _,Is.ah _,Is.ah _,Is.ah _,Is.ah _,Is.ah _,Is.ah _,trivial⟩ trivial (fun _ _ _ _ h=>h) trivial ?_ ?_
  ·refine⟨?_,?_,?_,?_,?_,?_,?_,trivial⟩;all_goals intro u w' d s c o m g
   all_goals simp only[bJ,bK,bL,bM,au,Act.put,bN,bO,bP,Nat.reduceAdd,Nat.zero_add]
   ·clear c o m g;refine aj ?_;go_simp;exact⟨_,rfl,al⟩
   ·have bg:u 0=_:=c 0;clear c o m g;simp only[bg];refine aj ?_;go_simp;exact⟨_,rfl,al⟩
   ·have a3:u 1=_:=c 1;clear c o m g;simp only[a3];refine aj ?_;go_simp;exact⟨_,rfl,al⟩
   ·have L:u 2=_:=c 2;clear c o m g;simp only[L];refine aj ?_;exact wp_load_mid _ _ rfl g11 0 rfl a7 _ (cG (M.out.fr s (fun x=>x))) Tryz.underlying38 rfl cd.out ⟨_,rfl,al⟩
   ·have L:u 2=_:=c 2;clear c o m g;simp only[L];refine aj ?_;exact wp_load_mid _ _ rfl g14 0 rfl bf _ (cG (aJ.out.fr s (fun x=>x))) Tryz.underlying38 rfl ce.out ⟨_,rfl,al⟩
   ·have bh:u 3=_:=c 3;have bi:u 4=_:=c 4;have L:u 2=_:=c 2;clear c o m g;simp only[bh,bi,L];refine aj ?_;exact eS _ _ _ _ _ rfl _ _ rfl rfl Tryz.eqGuardType38 _ (qr.out _) ⟨_,rfl,al⟩
   ·have L:u 2=_:=c 2;have bk:u 5=_:=c 5;clear c o m g;simp only[L,bk];refine aj ?_;go_simp;exact⟨_,rfl,al⟩
  ·intro u w' s c g;have bl:u 6=_:=c 6 (by omega);clear c g;simp only[bJ,bK,bL,bM,au,Act.put,bN,bO,bP,dL,dM,Nat.reduceAdd,Nat.zero_add,bl];have cp:=af (bE.out.trans s);have bR:=af (aH.out.aq s);have bd:=af (aI.out.aq s);clear s bE aH aI M aJ;generalize w'=c7 at*;go_wp2;go_ret3;rw[ab.out];exact⟨rfl,cp.out⟩
 have qr:Hid (∀w:World,(binOp .neq 38 (.agg a7.toArray) (.agg bf.toArray)).run Tryz.prog w= .ok (.bool false) w):=fun w=>by
  rw[bq.out,decide_eq_true B];rfl
 have ab:Hid (r=(match dX f q f.length with|some (a,b)=>(dc 1 [a.1,a.2],dc 1 [b.1,b.2],true)|none=>([],[],false))):=by
  simp only[Hid];rw[bu.out,je,if_pos ⟨rfl,rfl,B⟩];rfl
 have hlen:f.length=q.length:=by
  have a3:=ad rfl;have L:=ax rfl;omega
 have aC:f.length≤1048576:=by
  have a3:=ad rfl;have:=cA.out;omega
 have cb:=af hlen;have cz:=af aC;clear ad ax B bu bq hlen aC;go_enter Tryz.func26,Tryz.ntmps26;go_wp2_with(refine ay rfl 64 (.tmp 2) rfl _ rfl ?_);intro w1 n1;have av:=af n1;clear n1;go_wp2_with(refine ay rfl 64 (.tmp 3) rfl _ rfl ?_);intro w2 W;have aX:Hid (ao w2 w.heap.size 64 (bv++[Value.slice br bo bW]).toArray):=av.out.aF.fr W.fr (fun x=>x);have aY:Hid (ao w2 w1.heap.size 64 (bU++[Value.slice bs nb bX]).toArray):=W.aF;have am:=af (av.out.fr.trans W.fr);clear W av;generalize w.heap.size=g6 at*;generalize w1.heap.size=g7 at*;obtain⟨bV,a5⟩:=eY aX.out a1.out;go_wp2_with(refine aB rfl 38 (.tmp 18) rfl ⟨g6,0,none⟩ rfl bv _ a5 Tryz.underlying38 rfl bc.out ?_);go_wp2_with fail;refine(bB.out _ am.out).mono ?_;rintro e X⟨v,rfl,O⟩;obtain⟨a6,aL,rfl,a2,f3⟩:=im.iA O rfl cr.out;have A:=af a2;have ap:=af (am.out.trans f3);have z:=af (aY.out.fr f3 (fun x=>x));clear O a2 f3 aX aY bV a5 am;go_wp2_with(refine ak rfl 38 rfl aR fV aD rfl ?_);intro cn n4;have D:=af n4.aF;have aZ:=af (ap.out.trans n4.fr);have E:=af (z.out.fr n4.fr (fun x=>x));have F:=af (A.out.aq n4.fr);have T:Hid (w.heap.size≤X.heap.size∧g7<X.heap.size∧(∀k,gj (Value.slice a6 f.length aL) k→k<X.heap.size)):=⟨ap.out.size,z.out.lt,A.out.lt⟩;clear n4 ap z A;generalize X.heap.size=g11 at*;go_wp2_with(refine ai rfl 38 (.tmp 11) _ rfl g11 a7.toArray rfl rfl _ _ D.out aV.out.info aV.out.zero aV.out.one ?_);intro b3 b5 f5;have S:=af b5;have aG:Hid (Fr ag w b3):=aZ.out.aw f5 (fun i b9 e=>by have K:i=g11:=e;have:=T.out.1;omega);have Q:=af (E.out.fr f5 (fun e=>by have K:g7=g11:=e;have:=T.out.2.1;omega));have R:=af (F.out.fr f5 (fun k P e=>by have K:k=g11:=e;have:=T.out.2.2 k P;omega));clear b5 f5 aZ D E F T;obtain⟨cg,bA⟩:=eY Q.out be.out;go_wp2_with(refine aB rfl 38 (.tmp 31) rfl ⟨g7,0,none⟩ rfl bU _ bA Tryz.underlying38 rfl bQ.out ?_);go_wp2_with fail;refine(b4.out _ aG.out).mono ?_;rintro e ae⟨v,rfl,O⟩;obtain⟨ca,bx,rfl,bw,f6⟩:=im.iA O rfl cE.out;have H:=af bw;have a0:=af (aG.out.trans f6);have t:=af (S.out.fr f6 (fun x=>x));have G:=af (R.out.aq f6);clear O bw f6 Q cg bA aG S R;go_wp2_with(refine ak rfl 38 rfl aR fV aD rfl ?_);intro c6 n7;have Y:=af n7.aF;have bt:=af (a0.out.trans n7.fr);have C:=af (t.out.fr n7.fr (fun x=>x));have Z:=af (G.out.aq n7.fr);have aa:=af (H.out.aq n7.fr);have ac:Hid (w.heap.size≤ae.heap.size∧g11<ae.heap.size∧(∀k,gj (Value.slice a6 f.length aL) k→k<ae.heap.size)∧(∀k,gj (Value.slice ca q.length bx) k→k<ae.heap.size)):=⟨a0.out.size,t.out.lt,G.out.lt,H.out.lt⟩;clear n7 a0 t G H;generalize ae.heap.size=g14 at*;go_wp2_with(refine ai rfl 38 (.tmp 14) _ rfl g14 bf.toArray rfl rfl _ _ Y.out ba.out.info ba.out.zero ba.out.one ?_);intro co b8 f8;have aJ:=af b8;have bE:Hid (Fr ag w co):=bt.out.aw f8 (fun i b9 e=>by have K:i=g14:=e;have:=ac.out.1;omega);have M:=af (C.out.fr f8 (fun e=>by have K:g11=g14:=e;have:=ac.out.2.1;omega));have aH:=af (Z.out.fr f8 (fun k P e=>by have K:k=g14:=e;have:=ac.out.2.2.1 k P;omega));have aI:=af (aa.out.fr f8 (fun k P e=>by have K:k=g14:=e;have:=ac.out.2.2.2 k P;omega));clear b8 f8 bt Y C Z aa ac;go_upto_region 5 with fail;refine ft 7 ag [Is (.int .i64 0),Is (.bool false),Is (.bool false),Is (.agg a7.toArray),Is (.agg bf.toArray),Is (.bool false),Is (.bool false)] [] (fun _=>True) (fun _ _=>false) (by kernel_rfl) (by kernel_rfl) (by kernel_rfl) ⟨Is.ah _,Is.ah _,Is.ah _,Is.ah _,Is.ah _,Is.ah _,Is.ah _,trivial⟩ trivial (fun _ _ _ _ h=>h) trivial ?_ ?_
 ·refine⟨?_,?_,?_,?_,?_,?_,?_,trivial⟩;all_goals intro u w' d s c o m g
  all_goals simp only[bJ,bK,bL,bM,au,Act.put,bN,bO,bP,Nat.reduceAdd,Nat.zero_add]
  ·clear c o m g;refine aj ?_;go_simp;exact⟨_,rfl,al⟩
  ·have bg:u 0=_:=c 0;clear c o m g;simp only[bg];refine aj ?_;go_simp;exact⟨_,rfl,al⟩
  ·have a3:u 1=_:=c 1;clear c o m g;simp only[a3];refine aj ?_;go_simp;exact⟨_,rfl,al⟩
  ·have L:u 2=_:=c 2;clear c o m g;simp only[L];refine aj ?_;exact wp_load_mid _ _ rfl g11 0 rfl a7 _ (cG (M.out.fr s (fun x=>x))) Tryz.underlying38 rfl cd.out ⟨_,rfl,al⟩
  ·have L:u 2=_:=c 2;clear c o m g;simp only[L];refine aj ?_;exact wp_load_mid _ _ rfl g14 0 rfl bf _ (cG (aJ.out.fr s (fun x=>x))) Tryz.underlying38 rfl ce.out ⟨_,rfl,al⟩
  ·have bh:u 3=_:=c 3;have bi:u 4=_:=c 4;have L:u 2=_:=c 2;clear c o m g;simp only[bh,bi,L];refine aj ?_;exact eS _ _ _ _ _ rfl _ _ rfl rfl Tryz.eqGuardType38 _ (qr.out _) ⟨_,rfl,al⟩
  ·have L:u 2=_:=c 2;have bk:u 5=_:=c 5;clear c o m g;simp only[L,bk];refine aj ?_;go_simp;exact⟨_,rfl,al⟩
 ·intro u w' s c g;have bl:u 6=_:=c 6 (by omega);clear c g;simp only[bJ,bK,bL,bM,au,Act.put,bN,bO,bP,dL,dM,Nat.reduceAdd,Nat.zero_add,bl];have cp:=af (bE.out.trans s);have bR:=af (aH.out.aq s);have bd:=af (aI.out.aq s);clear s bE aH aI M aJ;generalize w'=c7 at*;rw[←cb.out]at bd;have cc:Hid (q.length=f.length):=cb.out.symm;rw[cc.out];have de:Hid (f.length=f.length):=rfl;generalize c1:f.length=N at*;have c8:=af c1;have db:N≤1048576:=cz.out;clear c1;go_wp2;go_loopw[16](fun v wr=>∃k:Nat,k≤N∧v= .int .i64 ((k:Int)-1)∧Fr ag c7 wr∧dX f q N=dX f q k)(fun v _=>(intOf v+1).toNat);case atStart=>exact⟨N,Nat.le_refl _,rfl,aA,rfl⟩
  case round=>
   obtain⟨k,P,rfl,s,c3⟩:=hrel;have bF:=af s;have bG:=af c3;clear s c3;rcases k with _|k;·have cx:Hid (dX f q N=none):=bG.out;have c9:((0:Nat):Int)-1=-1:=rfl;rw[c9];have cw:=af (cp.out.trans bF.out);go_wp2;go_ret3;rw[ab.out,cx.out];exact⟨rfl,cw.out⟩
   ·have c0:((k+1:Nat):Int)-1=(k:Int):=by omega
    rw[c0];clear c0;have cQ:k<f.length:=by rw[c8.out];omega
    have cR:k<q.length:=by rw[cc.out];omega
    obtain⟨I,rfl,c4⟩:=(bR.out.aq bF.out).at_ cQ;obtain⟨J,rfl,c5⟩:=(bd.out.aq bF.out).at_ cR;have ck:(f.getD k ([],[])).1.length=32∧(f.getD k ([],[])).2.length=32:=bR.out.each _ (by rw[List.getD_eq_getElem?_getD,List.getElem?_eq_getElem cQ];exact List.getElem_mem _);have cl:(q.getD k ([],[])).1.length=32∧(q.getD k ([],[])).2.length=32:=bd.out.each _ (by rw[List.getD_eq_getElem?_getD,List.getElem?_eq_getElem cR];exact List.getElem_mem _);have bb:Hid (dX f q N=if f.getD k ([],[])=q.getD k ([],[])then dX f q k else some (f.getD k ([],[]),q.getD k ([],[]))):=bG.out;have bp:=af (fun w:World=>I7 w _ _ ck cl);have cY:Hid (∀w',Calls Tryz.prog 78 #[.agg (dR (f.getD k ([],[]))).toArray] w' (aK w' (.string ⟨(dc 1 [(f.getD k ([],[])).1,(f.getD k ([],[])).2]).toArray⟩))):=fun w'=>xG _ _ ck.1 ck.2 w';have cZ:Hid (∀w',Calls Tryz.prog 78 #[.agg (dR (q.getD k ([],[]))).toArray] w' (aK w' (.string ⟨(dc 1 [(q.getD k ([],[])).1,(q.getD k ([],[])).2]).toArray⟩))):=fun w'=>xG _ _ cl.1 cl.2 w';have bS:Hid ((Tryz.prog.info? 139).map (·.size)=some (dR (f.getD k ([],[]))).length):=by rw[mH ck];exact tN
    have bT:Hid ((Tryz.prog.info? 139).map (·.size)=some (dR (q.getD k ([],[]))).length):=by rw[mH cl];exact tN
    have b6:=af c4;have b7:=af c5;have i1:(k:Int)<(N:Int):=by omega
    have df:k≤1048576:=by omega
    clear c4 c5 ck cl bG cQ cR;generalize f.getD k ([],[])=x at*;generalize q.getD k ([],[])=y at*;generalize cN:dR x=a8 at*;generalize cO:dR y=a9 at*;obtain⟨cs,bY⟩:∃cs:ByteArray,cs=⟨(dc 1 [x.1,x.2]).toArray⟩:=⟨_,rfl⟩;obtain⟨ct,bZ⟩:∃ct:ByteArray,ct=⟨(dc 1 [y.1,y.2]).toArray⟩:=⟨_,rfl⟩;rw[←bY]at cY;rw[←bZ]at cZ;have cC:=af bY;have cD:=af bZ;clear cN cO bY bZ;by_cases aQ:x=y
    ·have cS:Hid (∀w:World,(binOp .neq 139 (.agg a8.toArray) (.agg a9.toArray)).run Tryz.prog w= .ok (.bool false) w):=fun w=>by
      rw[bp.out w,decide_eq_true aQ];rfl
     have cy:Hid (dX f q N=dX f q k):=by simp only[Hid];rw[bb.out,if_pos aQ]
     clear aQ bb bp;go_upto_region 10 with fail;refine aE 9 ag [Is (.slice (some I) N aL),Is (.int .i64 k),Is (.pointer (some (I.add (k*64)))),Is (.agg a8.toArray),Is (.slice (some J) N bx),Is (.int .i64 k),Is (.pointer (some (J.add (k*64)))),Is (.agg a9.toArray),Is (.bool false)] [] (fun _=>True) (fun _ _=>false) (by kernel_rfl) (by kernel_rfl) (by kernel_rfl) (by kernel_rfl) ⟨Is.ah _,Is.ah _,Is.ah _,Is.ah _,Is.ah _,Is.ah _,Is.ah _,Is.ah _,Is.ah _,trivial⟩ trivial (fun _ _ _ _ h=>h) trivial ?_ ?_
     ·refine⟨?_,?_,?_,?_,?_,?_,?_,?_,?_,trivial⟩;all_goals intro u w' d s c o m g
      all_goals simp only[bJ,bK,bL,bM,au,Act.put,bN,bO,bP,Nat.reduceAdd,Nat.zero_add]
      ·clear c o m g;refine aj ?_;go_simp;exact⟨_,rfl,al⟩
      ·clear c o m g;refine aj ?_;go_simp;exact⟨_,rfl,al⟩
      ·have bg:u 0=_:=c 0;have a3:u 1=_:=c 1;clear c o m g;simp only[bg,a3];refine aj ?_;go_simp;exact⟨_,rfl,al⟩
      ·have L:u 2=_:=c 2;clear c o m g;simp only[L];refine aj ?_;exact az _ _ rfl (I.add (k*64)) rfl a8 _ (fun j v U=>s.an (b6.out j v U) (fun x=>x)) Tryz.underlying139 rfl bS.out ⟨_,rfl,al⟩
      ·clear c o m g;refine aj ?_;go_simp;exact⟨_,rfl,al⟩
      ·clear c o m g;refine aj ?_;go_simp;exact⟨_,rfl,al⟩
      ·have bi:u 4=_:=c 4;have bk:u 5=_:=c 5;clear c o m g;simp only[bi,bk];refine aj ?_;go_simp;exact⟨_,rfl,al⟩
      ·have bl:u 6=_:=c 6;clear c o m g;simp only[bl];refine aj ?_;exact az _ _ rfl (J.add (k*64)) rfl a9 _ (fun j v U=>s.an (b7.out j v U) (fun x=>x)) Tryz.underlying139 rfl bT.out ⟨_,rfl,al⟩
      ·have bh:u 3=_:=c 3;have ch:u 7=_:=c 7;clear c o m g;simp only[bh,ch];refine aj ?_;exact eS _ _ _ _ _ rfl _ _ rfl rfl Tryz.eqGuardType139 _ (cS.out _) ⟨_,rfl,al⟩
     ·intro u w' s c g;have ci:u 8=_:=c 8 (by omega);clear c g;simp only[bJ,bK,bL,bM,au,Act.put,bN,bO,bP,dL,dM,Nat.reduceAdd,Nat.zero_add,ci];have cq:=af (bF.out.trans s);have bC:Hid (∀j v,a8[j]? =some v→w'.cell? ((I.add (k*64)).add j)=some v):=fun j v U=>s.an (b6.out j v U) (fun x=>x);have bD:Hid (∀j v,a9[j]? =some v→w'.cell? ((J.add (k*64)).add j)=some v):=fun j v U=>s.an (b7.out j v U) (fun x=>x);clear s bF b6 b7;generalize w'=dd at*;go_wp2;go_roundw;case rel=>exact⟨k,by omega,rfl,cq.out,cy.out⟩
      case measure=>simp[intOf]
    ·have cS:Hid (∀w:World,(binOp .neq 139 (.agg a8.toArray) (.agg a9.toArray)).run Tryz.prog w= .ok (.bool true) w):=fun w=>by
      rw[bp.out w,decide_eq_false aQ];rfl
     have cB:Hid (r=(dc 1 [x.1,x.2],dc 1 [y.1,y.2],true)):=by
      simp only[Hid];rw[ab.out,bb.out,if_neg aQ]
     clear aQ bb bp;go_upto_region 10 with fail;refine aE 9 ag [Is (.slice (some I) N aL),Is (.int .i64 k),Is (.pointer (some (I.add (k*64)))),Is (.agg a8.toArray),Is (.slice (some J) N bx),Is (.int .i64 k),Is (.pointer (some (J.add (k*64)))),Is (.agg a9.toArray),Is (.bool true)] [] (fun _=>True) (fun _ _=>false) (by kernel_rfl) (by kernel_rfl) (by kernel_rfl) (by kernel_rfl) ⟨Is.ah _,Is.ah _,Is.ah _,Is.ah _,Is.ah _,Is.ah _,Is.ah _,Is.ah _,Is.ah _,trivial⟩ trivial (fun _ _ _ _ h=>h) trivial ?_ ?_
     ·refine⟨?_,?_,?_,?_,?_,?_,?_,?_,?_,trivial⟩;all_goals intro u w' d s c o m g
      all_goals simp only[bJ,bK,bL,bM,au,Act.put,bN,bO,bP,Nat.reduceAdd,Nat.zero_add]
      ·clear c o m g;refine aj ?_;go_simp;exact⟨_,rfl,al⟩
      ·clear c o m g;refine aj ?_;go_simp;exact⟨_,rfl,al⟩
      ·have bg:u 0=_:=c 0;have a3:u 1=_:=c 1;clear c o m g;simp only[bg,a3];refine aj ?_;go_simp;exact⟨_,rfl,al⟩
      ·have L:u 2=_:=c 2;clear c o m g;simp only[L];refine aj ?_;exact az _ _ rfl (I.add (k*64)) rfl a8 _ (fun j v U=>s.an (b6.out j v U) (fun x=>x)) Tryz.underlying139 rfl bS.out ⟨_,rfl,al⟩
      ·clear c o m g;refine aj ?_;go_simp;exact⟨_,rfl,al⟩
      ·clear c o m g;refine aj ?_;go_simp;exact⟨_,rfl,al⟩
      ·have bi:u 4=_:=c 4;have bk:u 5=_:=c 5;clear c o m g;simp only[bi,bk];refine aj ?_;go_simp;exact⟨_,rfl,al⟩
      ·have bl:u 6=_:=c 6;clear c o m g;simp only[bl];refine aj ?_;exact az _ _ rfl (J.add (k*64)) rfl a9 _ (fun j v U=>s.an (b7.out j v U) (fun x=>x)) Tryz.underlying139 rfl bT.out ⟨_,rfl,al⟩
      ·have bh:u 3=_:=c 3;have ch:u 7=_:=c 7;clear c o m g;simp only[bh,ch];refine aj ?_;exact eS _ _ _ _ _ rfl _ _ rfl rfl Tryz.eqGuardType139 _ (cS.out _) ⟨_,rfl,al⟩
     ·intro u w' s c g;have ci:u 8=_:=c 8 (by omega);clear c g;simp only[bJ,bK,bL,bM,au,Act.put,bN,bO,bP,dL,dM,Nat.reduceAdd,Nat.zero_add,ci];have cq:=af (bF.out.trans s);have bC:Hid (∀j v,a8[j]? =some v→w'.cell? ((I.add (k*64)).add j)=some v):=fun j v U=>s.an (b6.out j v U) (fun x=>x);have bD:Hid (∀j v,a9[j]? =some v→w'.cell? ((J.add (k*64)).add j)=some v):=fun j v U=>s.an (b7.out j v U) (fun x=>x);clear s bF b6 b7;generalize w'=dd at*;go_upto_region 11 with fail;refine aE 13 ag [Is (.slice (some I) N aL),Is (.int .i64 k),Is (.pointer (some (I.add (k*64)))),Is (.agg a8.toArray),Is (.string cs),Is (.slice (some J) N bx),Is (.int .i64 k),Is (.pointer (some (J.add (k*64)))),Is (.agg a9.toArray),Is (.string ct),Is (.string cs),Is (.string ct),Is (.bool true)] [] (fun _=>True) (fun _ _=>false) (by kernel_rfl) (by kernel_rfl) (by kernel_rfl) (by kernel_rfl) ⟨Is.ah _,Is.ah _,Is.ah _,Is.ah _,Is.ah _,Is.ah _,Is.ah _,Is.ah _,Is.ah _,Is.ah _,Is.ah _,Is.ah _,Is.ah _,trivial⟩ trivial (fun _ _ _ _ h=>h) trivial ?_ ?_
      ·refine⟨?_,?_,?_,?_,?_,?_,?_,?_,?_,?_,?_,?_,?_,trivial⟩;all_goals intro u w' d s c o m g
       all_goals simp only[bJ,bK,bL,bM,au,Act.put,bN,bO,bP,Nat.reduceAdd,Nat.zero_add]
       ·clear c o m g;refine aj ?_;go_simp;exact⟨_,rfl,al⟩
       ·clear c o m g;refine aj ?_;go_simp;exact⟨_,rfl,al⟩
       ·have bg:u 0=_:=c 0;have a3:u 1=_:=c 1;clear c o m g;simp only[bg,a3];refine aj ?_;go_simp;exact⟨_,rfl,al⟩
       ·have L:u 2=_:=c 2;clear c o m g;simp only[L];refine aj ?_;exact az _ _ rfl (I.add (k*64)) rfl a8 _ (fun j v U=>s.an (bC.out j v U) (fun x=>x)) Tryz.underlying139 rfl bS.out ⟨_,rfl,al⟩
       ·have bh:u 3=_:=c 3;clear c o m g;simp only[bh];refine aj ?_;go_simp;refine(cY.out _).mono ?_;rintro e cn⟨rfl,f4⟩;exact⟨_,rfl,f4.bI,rfl,trivial⟩
       ·clear c o m g;refine aj ?_;go_simp;exact⟨_,rfl,al⟩
       ·clear c o m g;refine aj ?_;go_simp;exact⟨_,rfl,al⟩
       ·have bk:u 5=_:=c 5;have bl:u 6=_:=c 6;clear c o m g;simp only[bk,bl];refine aj ?_;go_simp;exact⟨_,rfl,al⟩
       ·have ch:u 7=_:=c 7;clear c o m g;simp only[ch];refine aj ?_;exact az _ _ rfl (J.add (k*64)) rfl a9 _ (fun j v U=>s.an (bD.out j v U) (fun x=>x)) Tryz.underlying139 rfl bT.out ⟨_,rfl,al⟩
       ·have ci:u 8=_:=c 8;clear c o m g;simp only[ci];refine aj ?_;go_simp;refine(cZ.out _).mono ?_;rintro e cn⟨rfl,f4⟩;exact⟨_,rfl,f4.bI,rfl,trivial⟩
       ·have bi:u 4=_:=c 4;clear c o m g;simp only[bi];refine aj ?_;go_simp;exact⟨_,rfl,al⟩
       ·have da:u 9=_:=c 9;clear c o m g;simp only[da];refine aj ?_;go_simp;exact⟨_,rfl,al⟩
       ·clear c o m g;refine aj ?_;go_simp;exact⟨_,rfl,al⟩
      ·intro u w' s c g;have cH:u 10=_:=c 10 (by omega);have cI:u 11=_:=c 11 (by omega);have cJ:u 12=_:=c 12 (by omega);clear c g;simp only[bJ,bK,bL,bM,au,Act.put,bN,bO,bP,dL,dM,Nat.reduceAdd,Nat.zero_add,cH,cI,cJ];have cw:=af (cp.out.trans (cq.out.trans s));clear s cq bC bD;go_wp2;go_ret3;rw[cB.out];simp only;rw[←cC.out,←cD.out];exact⟨rfl,cw.out⟩
theorem uN(place:Nat→Option (Nat×Nat))(b:List Value)(i:Nat)(v:Value)(rest:List (Nat×Value))(off size:Nat)(f:place i=some (off,size))(a:v.cells.size=size)(e:off+size≤b.length):
  Instr.fill place b.toArray ((i,v)::rest)=Instr.fill place (b.take off++v.cells.toList++b.drop (off+size)).toArray rest:=by
 have c:=jO v.cells b.toArray off (by simpa[a]using e);have d:¬(off+size>b.toArray.size):=by simp;omega
 simp only[Instr.fill,f,a,ne_eq,not_true_eq_false,decide_false,Bool.false_or,d,Bool.false_eq_true,if_false];rw[a]at c;rw[c]
def ec:Array Value:=(List.replicate 32 (Value.int .u8 0)++[Value.slice none 0 0]).toArray
theorem vV(parts:List (Nat×Value)):Tryz.prog.built 64 parts=Instr.fill ((#[(0,32),(32,1)]:Array (Nat×Nat))[·]?) ec parts:=by kernel_rfl
theorem qQ(L:List Value)(a:L.length=32)(A:Option Addr)(len cap:Nat):
  Tryz.prog.built 64 [(0, .agg L.toArray),(1, .slice A len cap)]=some (L++[Value.slice A len cap]).toArray:=by
 rw[vV,ec];rw[uN _ _ 0 _ _ 0 32 rfl (by simpa[Value.cells]using a) (by simp)];rw[show((List.replicate 32 (Value.int .u8 0)++[Value.slice none 0 0]).take 0++(Value.agg L.toArray).cells.toList++(List.replicate 32 (Value.int .u8 0)++[Value.slice none 0 0]).drop (0+32))=L++[Value.slice none 0 0]by simp[Value.cells]];rw[uN _ _ 1 _ _ 32 1 rfl rfl (by simp[a])];rw[show((L++[Value.slice none 0 0]).take 32++(Value.slice A len cap).cells.toList++(L++[Value.slice none 0 0]).drop (32+1))=L++[Value.slice A len cap]by simp[Value.cells,a,List.drop_append]];rfl
def nd(b:Nat)(m:Nat)(path:List (List UInt8))(A:Option Addr)(c:Nat)(W:World):Prop:=
 m≤c∧c≤9223372036854775807∧(m=0∨∃g a,A=some ⟨g,0,none⟩∧b≤g∧ao W g 37 (path.flatMap ar++a).toArray)
def Bg(b:Nat)(m:Nat)(path:List (List UInt8))(v:Value)(W:World):Prop:=∃A c,v= .slice A m c∧nd b m path A c W
theorem nd.aq{b m:Nat}{path:List (List UInt8)}{A:Option Addr}{c:Nat}{w w':World}(j:Fr ag w w')(h:nd b m path A c w):nd b m path A c w':=by
 obtain⟨d,e,a⟩:=h;refine⟨d,e,?_⟩;rcases a with a|⟨g,l,f,k,i⟩;·exact .inl a
 ·exact .inr ⟨g,l,f,k,i.fr j (fun x=>x)⟩
theorem nd.JB{b m:Nat}{path:List (List UInt8)}{A:Option Addr}{c:Nat}{w:World}(h:nd b m path A c w)(e:path.length=m)(he:∀d∈path,d.length=32):∃S,ed w S A m path:=by
 have a:∀p:List (List UInt8),(∀d∈p,d.length=32)→(p.flatMap ar).length=p.length*32:=by
  intro p f;induction p with
  |nil=>rfl
  |cons d r q=>
   rw[List.flatMap_cons,aY,q (fun x o=>f x (by simp[o])),ar,List.length_map,f d (by simp),List.length_cons];omega
 obtain⟨_,_,i⟩:=h;rcases i with rfl|⟨g,s,rfl,_,l⟩;·exact⟨ag,⟨⟨by rw[a _ he,e],fun h=>absurd h (Nat.lt_irrefl _)⟩,e,he⟩⟩
 ·refine⟨fun k=>k=g,⟨⟨by rw[a _ he,e],fun _=>⟨_,rfl,rfl,fun j u hu=>?_⟩⟩,e,he⟩⟩;have n:=(List.getElem?_eq_some_iff.1 hu).1;rw[Addr.add_mid,Nat.zero_add,l.cell,bD,List.getElem?_append_left n];exact hu
theorem Ki(a b:UInt8):bits .xor .u8 ((a.toNat:Nat):Int) ((b.toNat:Nat):Int)=(((a^^^b).toNat:Nat):Int):=by
 have c:=a.toNat_lt;have d:=b.toNat_lt;rw[u8_xor_nat _ _ (by omega) (by omega),UInt8.toNat_xor]
def vM(l:List UInt8)(k:Nat)(b:UInt8):List UInt8:=l.set k (l.getD k 0^^^b)
theorem rB(l:List UInt8)(k:Nat)(b:UInt8):(vM l k b).length=l.length:=List.length_set
theorem Fx(l:List UInt8)(k:Nat)(x:UInt8):(ar l).set k (aT x)=ar (l.set k x):=by unfold ar;rw[List.map_set]
theorem Gb(p:List (List UInt8))(he:∀d∈p,d.length=32):∀(i j:Nat)(x:UInt8),i<p.length→j<32→(p.flatMap ar).set (i*32+j) (aT x)=(p.set i ((p.getD i []).set j x)).flatMap ar:=by
 induction p with
 |nil=>intro i j x h;simp at h
 |cons d r e=>
  intro i j x a b;have f:(ar d).length=32:=by rw[ar,List.length_map];exact he d (by simp)
  rcases i with _|i;·rw[List.flatMap_cons,Nat.zero_mul,Nat.zero_add,List.set_append_left _ _ (by omega),Fx,List.set_cons_zero,List.flatMap_cons];rfl
  ·rw[List.flatMap_cons,List.set_append_right _ _ (by omega),show(i+1)*32+j-(ar d).length=i*32+j by omega,e (fun x c=>he x (by simp[c])) i j x (by simpa using a) b,List.set_cons_succ,List.flatMap_cons];rfl
theorem JT:(Tryz.prog.info? 5).map (·.size)=some 1:=by kernel_rfl
theorem Bg.low{b d m:Nat}{path:List (List UInt8)}{v:Value}{W:World}(h:Bg b m path v W)(l:d≤b):Bg d m path v W:=by
 obtain⟨A,c,e,f,i,a⟩:=h;refine⟨A,c,e,f,i,?_⟩;rcases a with a|⟨g,o,j,n,k⟩;·exact .inl a
 ·exact .inr ⟨g,o,j,Nat.le_trans l n,k⟩
theorem rS(p:List (List UInt8))(a:∀d∈p,d.length=32):(p.flatMap ar).length=p.length*32:=by
 induction p with
 |nil=>rfl
 |cons d r c=>
  rw[List.flatMap_cons,aY,c (fun x b=>a x (by simp[b])),ar,List.length_map,a d (by simp),List.length_cons];omega
theorem Dl{w:World}{g:Nat}{t:TypeId}{p:List (List UInt8)}{l:List Value}(he:∀d∈p,d.length=32)(h:ao w g t (p.flatMap ar++l).toArray){i j:Nat}(a:i<p.length)(c:j<32):w.cell? ⟨g,i*32+j,none⟩=some (.int .u8 ((((p.getD i []).getD j 0).toNat:Nat):Int)):=by
 have e:∀(p:List (List UInt8)),(∀d∈p,d.length=32)→∀i,i<p.length→(p.flatMap ar)[i*32+j]? =some (aT ((p.getD i []).getD j 0)):=by
  intro p;induction p with
  |nil=>intro _ i h;simp at h
  |cons d r k=>
   intro he i a;have m:(ar d).length=32:=by rw[ar,List.length_map];exact he d (by simp)
   rcases i with _|i;·rw[List.flatMap_cons,Nat.zero_mul,Nat.zero_add,List.getElem?_append_left (by omega),ar,List.getElem?_map,List.getElem?_eq_getElem (by rw[he d (by simp)];exact c)];show some _=some (aT (d.getD j 0));rw[List.getD_eq_getElem?_getD,List.getElem?_eq_getElem (by rw[he d (by simp)];exact c)];rfl
   ·rw[List.flatMap_cons,List.getElem?_append_right (by omega),show(i+1)*32+j-(ar d).length=i*32+j by omega,k (fun x f=>he x (by simp[f])) i (by simpa using a)];rfl
 have b:=e p he i a;rw[h.cell,bD,List.getElem?_append_left (List.getElem?_eq_some_iff.1 b).1,b];rfl
theorem nd.cC{b m:Nat}{path:List (List UInt8)}{A:Option Addr}{c g:Nat}{w w':World}{t:TypeId}{cs:Array Value}(h:nd b m path A c w)(l:ao w g t cs)(p:37≠t)(n:Fr (fun k=>k=g) w w'):nd b m path A c w':=by
 obtain⟨q,r,a⟩:=h;refine⟨q,r,?_⟩;rcases a with a|⟨d,s,j,o,f⟩;·exact .inl a
 ·exact .inr ⟨d,s,j,o,f.fr n (fun e=>by have i:d=g:=e;subst i;exact ao.oi f l p rfl)⟩
end Go.Proofs.YtphjagkehiklkaaGreatDoor.Lt
namespace Go.Proofs.YtphjagkehiklkaaGreatDoor
open Go.RowKit
def ky(b:Nat)(p:List (List UInt8))(A:Option Addr)(W:World):Prop:=p=[]∨∃g a,A=some ⟨g,0,none⟩∧b≤g∧ao W g 38 (p.flatMap Lt.ar++a).toArray
theorem ky.aq{b:Nat}{p:List (List UInt8)}{A:Option Addr}{w w':World}(h:ky b p A w)(d:Fr ag w w'):ky b p A w':=by
 rcases h with h|⟨g,f,a,e,c⟩;·exact .inl h
 ·exact .inr ⟨g,f,a,e,c.fr d (fun x=>x)⟩
theorem ky.low{b a:Nat}{p:List (List UInt8)}{A:Option Addr}{w:World}(h:ky b p A w)(e:a≤b):ky a p A w:=by
 rcases h with h|⟨g,d,c,f,h⟩;·exact .inl h
 ·exact .inr ⟨g,d,c,by omega,h⟩
theorem ky.cC{b g:Nat}{p:List (List UInt8)}{A:Option Addr}{w w':World}{t:TypeId}{cs:Array Value}(h:ky b p A w)(i:ao w g t cs)(m:38≠t)(j:Fr (fun k=>k=g) w w'):ky b p A w':=by
 rcases h with h|⟨a,n,f,l,c⟩;·exact .inl h
 ·exact .inr ⟨a,n,f,l,c.fr j (fun e=>by have d:a=g:=e;subst d;exact ao.oi c i m rfl)⟩
theorem ky.JB{b n:Nat}{p:List (List UInt8)}{A:Option Addr}{w:World}(h:ky b p A w)(he:∀d∈p,d.length=32)(e:n≤p.length):∃S,Lt.ed w S A n (p.take n):=by
 have f:Lt.ed w (fun _=>True) A p.length p:=by
  rcases h with rfl|⟨g,i,rfl,_,a⟩;·exact⟨⟨rfl,fun h=>absurd h (Nat.lt_irrefl _)⟩,rfl,by simp⟩
  ·refine⟨⟨Lt.rS _ he,fun _=>⟨_,rfl,trivial,fun j u hu=>?_⟩⟩,rfl,he⟩;have c:=(List.getElem?_eq_some_iff.1 hu).1;rw[Addr.add_mid,Nat.zero_add,a.cell,bD,List.getElem?_append_left c];exact hu
 exact⟨_,f.take e⟩
theorem Gi:(Tryz.prog.info? 38).map (fun i=>(i.zero,i.size,i.bytes))=some (some aR,32,32):=by kernel_rfl
theorem Fz(w:World)(b:Addr)(A:Option Addr)(m c:Nat)(S:Nat→Prop)(p:List (List UInt8))(d:Lt.ed w S A m p)(hm:m≤1048576)(ty:TypeId):
  ∃f a w',(Builtin.append_ #[31,31] ty #[.slice (some b) 0 0, .slice A m c]).run Tryz.prog w= .ok (.slice f m a) w'∧Fr ag w w'∧m≤a∧a≤9223372036854775807∧ky w.heap.size p f w':=by
 obtain⟨i,g,x,u,q⟩:=info_parts Gi;have k:Tryz.prog.underlying 31=some (.slice 38):=Tryz.underlying31;rcases Nat.eq_zero_or_pos m with rfl|n;·refine⟨some b,0,w,?_,aA,Nat.le_refl _,by omega, .inl (List.eq_nil_of_length_eq_zero d.len)⟩;cases A<;>simp[Builtin.append_,run_underlying k,sizeOf,typeInfo,g,Builtin.lenOf,Builtin.firstCells,storeCells,loadCells,loadCellsFrom]
 ·obtain⟨l,rfl,_,r⟩:=d.rd.2 n;have t:(p.flatMap Lt.ar).length=m*32:=d.rd.1;have h:=run_append_grow (P:=Tryz.prog) w 31 ty 38 i aR k g x b 0 0 [] (by simp) (by intro j v s;simp at s) l m c (p.flatMap Lt.ar) (by rw[u];exact t) r (by omega) (by omega) (by rw[q];exact growslice_fits (by omega) (by omega));rw[Nat.zero_add]at h;refine⟨some ⟨w.heap.size,0,none⟩,grownCap w m 0 38,_,h,aA.drew.alloc _,?_,?_, .inr ⟨w.heap.size,(Builtin.zeroCells aR.cells (grownCap w m 0 38-m)).toList,rfl,Nat.le_refl _,?_⟩⟩;·have:=grownCap_ge w m 0 38;omega
  ·have:=grownCap_le_maxLen w m 0 38 (by unfold maxLen;omega);unfold maxLen at this;omega
  ·have o:=ao.new w.drew 38 ((([]:List Value).toArray++(p.flatMap Lt.ar).toArray)++Builtin.zeroCells aR.cells (grownCap w m 0 38-m));have e:(([]:List Value).toArray++(p.flatMap Lt.ar).toArray)++Builtin.zeroCells aR.cells (grownCap w m 0 38-m)=(p.flatMap Lt.ar++(Builtin.zeroCells aR.cells (grownCap w m 0 38-m)).toList).toArray:=by
    apply Array.ext';simp
   rw[←e];exact o
theorem Jl{r:Oper}{a:Act}{w:World}{K:Act→World→Prop}{Q:Exit→Act→World→Prop}(s x:Operand)(n:r.op= .call {callee:= .builtin .append,args:=#[s,x],argTypes:=#[31,31]})
  (b:Addr)(o:a.eval s= .slice (some b) 0 0)(A:Option Addr)(m c:Nat)(q:a.eval x= .slice A m c)(S:Nat→Prop)(p:List (List UInt8))(k:Lt.ed w S A m p)(hm:m≤1048576)
  (h:∀f d w',Fr ag w w'→m≤d→d≤9223372036854775807→ky w.heap.size p f w'→K (a.put r.dst (.slice f m d)) w'):r.wp Tryz.prog a w K Q:=by
 obtain⟨f,d,w',e,l,g,i,j⟩:=Fz w b A m c S p k hm r.type;unfold Oper.wp execOp;simp only[n,resolve,invoke,builtin,Sem.run_bind,Sem.run_pure,Result.andThen_ok,List.map_toArray,List.map_cons,List.map_nil,o,q,e];exact h f d w' l g i j
def rA(p:List (List UInt8))(i j:Nat)(b:UInt8):List (List UInt8):=p.set i (Lt.vM (p.getD i []) j b)
theorem yU(p:List (List UInt8))(i j:Nat)(b:UInt8)(a:i<p.length)(he:∀d∈p,d.length=32):∀d∈rA p i j b,d.length=32:=by
 intro d c;rcases List.mem_or_eq_of_mem_set c with h|rfl;·exact he d h
 ·rw[Lt.rB,List.getD_eq_getElem?_getD,List.getElem?_eq_getElem a];exact he _ (List.getElem_mem a)
theorem vL(p:List (List UInt8))(i j:Nat)(b:UInt8):(rA p i j b).length=p.length:=List.length_set
theorem AV(p:List (List UInt8))(a:List Value)(he:∀d∈p,d.length=32)(i j:Nat)(b:UInt8)(c:i<p.length)(e:j<32):
  (p.flatMap Lt.ar++a).toArray.setIfInBounds (i*32+j) (.int .u8 (((((p.getD i []).getD j 0)^^^b).toNat:Nat):Int))=((rA p i j b).flatMap Lt.ar++a).toArray:=by
 apply Array.ext';simp only[Array.toList_setIfInBounds];rw[List.set_append_left _ _ (by rw[Lt.rS p he];omega)];have:=Lt.Gb p he i j (((p.getD i []).getD j 0)^^^b) c e;unfold aT at this;rw[this];rfl
theorem zY:(Tryz.prog.info? 38).map (·.size)=some 32:=by kernel_rfl
theorem JR:(Tryz.prog.info? 64).map (·.size)=some 33:=by kernel_rfl
theorem Kw(w:World):(zeroValue 64).run Tryz.prog w= .ok (.agg Lt.ec) w:=by kernel_rfl
theorem xD(L:List Value)(e:L.length=32)(d:∀u∈L,u.oneCell'=true)(A:Option Addr)(n c:Nat):
  Hid ((Tryz.prog.info? 64).map (·.size)=some (L++[Value.slice A n c]).toArray.size∧Lt.ec.size=(L++[Value.slice A n c]).toArray.size∧(L++[Value.slice A n c]).toArray.all (·.oneCell')=true):=by
 have b:(L++[Value.slice A n c]).toArray.size=33:=by simp[e]
 refine⟨by rw[b];exact JR,by rw[b];rfl,?_⟩;rw[Array.all_eq_true_iff_forall_mem];intro u hu;have a:u∈L++[Value.slice A n c]:=by simpa using hu
 rcases List.mem_append.1 a with h|h;·exact d u h
 ·simp only[List.mem_cons,List.not_mem_nil,or_false]at h;rw[h];rfl
def Ee(a:World)(b g n:Nat)(cs:List Value)(A:Option Addr)(w:World):Prop:=∃p:List (List UInt8),p.length=n∧(∀d∈p,d.length=32)∧ky b p A w∧ao w g 33 cs.toArray∧Fr (fun j=>b≤j) a w
theorem vO{rt:List UInt8}{i n:Int}{l:List UInt8}{p:List (List UInt8)}(h:oW rt i n l p=0):¬(n<1∨65536<n∨i<0∨n≤i)∧jl rt i n l p=true:=by
 unfold oW at h;by_cases a:n<1∨65536<n∨i<0∨n≤i;·rw[if_pos a]at h;cases h
 rw[if_neg a]at h;by_cases b:ly l=none;·rw[if_pos b]at h;cases h
 rw[if_neg b]at h;by_cases c:jl rt i n l p=true;·exact⟨a,c⟩
 ·rw[if_neg c]at h;cases h
theorem yq(rt:List UInt8)(k n:Nat)(t a:List UInt8)(p b:List (List UInt8))(he:∀d∈p,d.length=32)(e:∀d∈b,d.length=32)(c:jl rt (k:Int) (n:Int) t p=true)(f:jl rt (k:Int) (n:Int) a b=true)(g:bQ t≠bQ a)(r:List UInt8×List UInt8×Bool)
  (l:r=Lt.je (Lt.bj (bQ t) ((k:Int)+1) ((n:Int)+1) p).2.2 (Lt.bj (bQ a) ((k:Int)+1) ((n:Int)+1) b).2.2 (Lt.bj (bQ t) ((k:Int)+1) ((n:Int)+1) p).1 (Lt.bj (bQ a) ((k:Int)+1) ((n:Int)+1) b).1 (Lt.bj (bQ t) ((k:Int)+1) ((n:Int)+1) p).2.1 (Lt.bj (bQ a) ((k:Int)+1) ((n:Int)+1) b).2.1):
  r.2.2=true∧r.1≠r.2.1∧dt r.1=dt r.2.1∧r.1.length≤1000∧r.2.1.length≤1000:=by
 unfold jl at c f;rw[Bool.and_eq_true,decide_eq_true_eq,decide_eq_true_eq]at c f;have l1:=ew t;have l2:=ew a;have i:=(Lt.j4 (bQ t) l1 _ _ p he c.1).2;have j:=(Lt.j4 (bQ a) l2 _ _ b e f.1).2;exact(Lt.Fs (bQ t) (bQ a) l1 l2 p b he e (by rw[←i,←j]) _ _ _ _ rfl rfl r l).2.2.2.2 c.1 (by rw[c.2,f.2]) (fun h=>g h.1)
theorem zK{a b:Int}{e rb:List UInt8}{A B:List Lt.DP}{r:List UInt8×List UInt8×Bool}(d:r=Lt.je a b e rb A B)(h:r.2.2=true):2≤r.1.length∧2≤r.2.1.length:=by
 subst d;unfold Lt.je at h⊢;split at h
 ·rename_i c;rw[if_pos c];split at h;·exact⟨Lt.pN _ _,Lt.pN _ _⟩
  ·cases h
 ·cases h
end Go.Proofs.YtphjagkehiklkaaGreatDoor
namespace Go.Proofs.YtphjagkehiklkaaGreatDoor.Lt
open Go.RowKit
def Bt(w:World)(ds:List (List UInt8))(C:Nat→Nat→Prop)(mb:Option Nat)(W:World):Prop:=(∃b,mb=some b∧dO W b ds C∧w.heap.size≤b)∨(mb=none∧∀l i,¬C l i)
theorem Bt.fr{w W W':World}{ds:List (List UInt8)}{C:Nat→Nat→Prop}{mb:Option Nat}(h:Bt w ds C mb W)(e:Fr ag W W'):Bt w ds C mb W':=by
 rcases h with⟨b,a,c,d⟩|h;·exact .inl ⟨b,a,c.fr e (fun x=>x),d⟩
 ·exact .inr h
end Go.Proofs.YtphjagkehiklkaaGreatDoor.Lt
