/- Texts. -/
import Derived.Test.YtphjagkehiklkaaGreatDoorWK02
set_option linter.unusedVariables false
set_option linter.unusedSimpArgs false
set_option maxRecDepth 100000
set_option maxHeartbeats 1000000
namespace Go.Proofs.YtphjagkehiklkaaGreatDoor
open Go.RowKit
structure Rr(w:World)(g:Nat)(S:Nat→Prop)(l:List UInt8)(p:Nat)(f:Int):Prop where
 ex:∃A n c,aq w g 193 #[.slice A n c, .int .i64 p, .int .i64 f]∧Rd w S 1 A n (l.map bv)∧n≤c
 cN:¬S g
 small:p+l.length≤1099511627776
def eC(g:Nat):Nat→Prop:=fun k=>k=g
structure fY(w:World)(g:Nat)(S:Nat→Prop)(w':World)(l:List UInt8)(p:Nat)(f:Int):Prop where
 rr:Rr w' g S l p f
 fr:Fr (eC g) w w'
theorem Rr.ks{w w':World}{g:Nat}{S T:Nat→Prop}{l:List UInt8}{p:Nat}{f:Int}(h:Rr w g S l p f)(e:Fr T w w')(i:¬T g)(j:∀k,S k→¬T k):Rr w' g S l p f:=by
 obtain⟨⟨A,n,c,m,o,b⟩,a,d⟩:=h;exact⟨⟨A,n,c,m.fr e i,o.fr e j,b⟩,a,d⟩
theorem Rr.kh{w w':World}{g:Nat}{S:Nat→Prop}{l:List UInt8}{p:Nat}{f:Int}(h:Rr w g S l p f)(a:Fr ag w w'):Rr w' g S l p f:=h.ks a (fun x=>x) (fun _ _ x=>x)
theorem fY.fail{w:World}{g:Nat}{S:Nat→Prop}{l:List UInt8}{p:Nat}{f:Int}(h:Rr w g S l p f)(e:Int):fY w g S (w.setCell ⟨g,2,none⟩ (.int .i64 e)) l p e:=by
 obtain⟨⟨A,n,c,j,o,b⟩,a,d⟩:=h;have i:Fr (eC g) w (w.setCell ⟨g,2,none⟩ (.int .i64 e)):=(Fr.refl (eC g) _).setCell (p:=⟨g,2,none⟩) (fun _=>(rfl:eC g g)) _;exact⟨⟨⟨A,n,c,by simpa using j.jC 2 (.int .i64 e),o.fr i (fun k m e=>a (e▸m)),b⟩,a,d⟩,i⟩
theorem Rd.Jy{w:World}{S:Nat→Prop}{A:Option Addr}{n k c:Nat}{l:List UInt8}(h:Rd w S 1 A n (l.map bv))(b:k≤n)(a:n≤c):
  Rd w S 1 (if c=k then A else A.map (·.add k)) (n-k) ((l.drop k).map bv):=by
 have:=h.cut b a;rw[Nat.mul_one,←List.map_drop]at this;exact this
theorem fY.read{w:World}{g:Nat}{S:Nat→Prop}{l:List UInt8}{p:Nat}{A:Option Addr}{n c size:Nat}(q:aq w g 193 #[.slice A n c, .int .i64 p, .int .i64 0])(m:Rd w S 1 A n (l.map bv))(h:n≤c)(a:¬S g)(u:p+l.length≤1099511627776)(v:size≤l.length)
  {b:Option Addr}{i d:Nat}(o:b=if c=size then A else A.map (·.add size))(t:i=n-size)(f:d=c-size):
  fY w g S ((w.setCell ⟨g,0,none⟩ (.slice b i d)).setCell ⟨g,1,none⟩ (.int .i64 ((p:Int)+(size:Int)))) (l.drop size) (p+size) 0:=by
 have s:l.length=n:=by simpa using m.1
 have j:Fr (eC g) w ((w.setCell ⟨g,0,none⟩ (.slice b i d)).setCell ⟨g,1,none⟩ (.int .i64 ((p:Int)+(size:Int)))):=((Fr.refl (eC g) _).setCell (p:=⟨g,0,none⟩) (fun _=>(rfl:eC g g)) _).setCell (p:=⟨g,1,none⟩) (fun _=>(rfl:eC g g)) _;subst o t f;refine⟨⟨⟨_,_,_,by simpa[Int.natCast_add]using(q.jC 0 (.slice (if c=size then A else A.map (·.add size)) (n-size) (c-size))).jC 1 (.int .i64 ((p:Int)+(size:Int))),(m.Jy (by omega) h).fr j (fun k r e=>a (e▸r)),by omega⟩,a,by simp;omega⟩,j⟩
def pe(w:World)(g:Nat)(S:Nat→Prop)(l:List UInt8)(p:Nat)(val zero:Value)(size:Nat)(e:Int)(a:Ending)(w':World):Prop:=
 (e≠0→a= .returned zero∧fY w g S w' l p e)∧(e=0→a= .returned val∧fY w g S w' (l.drop size) (p+size) 0)
theorem zZ(g:Nat)(S:Nat→Prop)(l:List UInt8)(p:Nat)(a:Nat)(b:Array Value)(w:World)(h:Rr w g S l p 0)
  (x:Int)(size:Nat)(e:Int)(G:size≤l.length)(q:∀args w,(callFunc a args).run Tryz.prog w= .ok (.enter a args) w)
  (t:∀A n c,Rd w S 1 A n (l.map bv)→n≤c→Calls Tryz.prog a (#[.slice A n c]++b) w fun o w'=>o= .returned (.tuple #[.int .i64 x, .int .i64 size, .int .i64 e])∧w=w'):
  Calls Tryz.prog 148 #[.pointer (some ⟨g,0,none⟩), .func (.func a) #[] b] w (pe w g S l p (.int .i64 x) (.int .i64 0) size e):=by
 obtain⟨⟨A,n,c,d,m,i⟩,f,k⟩:=h;have j:l.length=n:=by simpa using m.1
 have v:w.cell? ⟨g,0,none⟩=some (.slice A n c):=d.cell 0;have y:w.cell? ⟨g,1,none⟩=some (.int .i64 p):=d.cell 1;have z:w.cell? ⟨g,2,none⟩=some (.int .i64 0):=d.cell 2;have C:=d.frozen 0;have D:=d.frozen 1;have E:=d.frozen 2;have r:=af (t A n c m i);have HB:=af d;have s:=af m;have H:size≤n:=by omega
 have F:p+n≤1099511627776:=by omega
 have I:=af j;clear t d m j;by_cases he:e=0
 ·subst he;go_enter Tryz.func148,Tryz.ntmps148;go_wp2_with fail;refine r.out.mono ?_;rintro o w1⟨rfl,rfl⟩;go_wp2;all_goals
   go_ret;refine⟨fun h=>absurd rfl h,fun _=>⟨rfl,?_⟩⟩;exact fY.read HB.out s.out i f k G (by first|rw[if_pos ‹_›]|rw[if_neg ‹_›]) rfl (by omega)
 ·have B:(e !=0)=true:=by rw[bne_iff_ne];exact he
  have u:=af he;clear he;go_enter Tryz.func148,Tryz.ntmps148;go_wp2_with fail;refine r.out.mono ?_;rintro o w1⟨rfl,rfl⟩;go_wp2;go_ret;exact⟨fun _=>⟨rfl,fY.fail ⟨⟨A,n,c,HB.out,s.out,i⟩,f,k⟩ e⟩,fun h=>absurd h u.out⟩
theorem yl(g:Nat)(S:Nat→Prop)(l:List UInt8)(p:Nat)(f:Int)(i:Value)(w:World)(h:Rr w g S l p f)(b:f≠0):
  Calls Tryz.prog 148 #[.pointer (some ⟨g,0,none⟩),i] w fun e w'=>e= .returned (.int .i64 0)∧w=w':=by
 obtain⟨⟨A,n,c,a,o,m⟩,d,q⟩:=h;have j:w.cell? ⟨g,2,none⟩=some (.int .i64 f):=a.cell 2;have k:(f !=0)=true:=by rw[bne_iff_ne];exact b
 clear a o b;go_enter Tryz.func148,Tryz.ntmps148;go_wp2;go_ret;exact⟨rfl,rfl⟩
theorem yk(g:Nat)(S:Nat→Prop)(l:List UInt8)(p:Nat)(a:Nat)(b:Array Value)(w:World)(h:Rr w g S l p 0)
  (x:Bool)(size:Nat)(e:Int)(G:size≤l.length)(q:∀args w,(callFunc a args).run Tryz.prog w= .ok (.enter a args) w)
  (t:∀A n c,Rd w S 1 A n (l.map bv)→n≤c→Calls Tryz.prog a (#[.slice A n c]++b) w fun o w'=>o= .returned (.tuple #[.bool x, .int .i64 size, .int .i64 e])∧w=w'):
  Calls Tryz.prog 155 #[.pointer (some ⟨g,0,none⟩), .func (.func a) #[] b] w (pe w g S l p (.bool x) (.bool false) size e):=by
 obtain⟨⟨A,n,c,d,m,i⟩,f,k⟩:=h;have j:l.length=n:=by simpa using m.1
 have v:w.cell? ⟨g,0,none⟩=some (.slice A n c):=d.cell 0;have y:w.cell? ⟨g,1,none⟩=some (.int .i64 p):=d.cell 1;have z:w.cell? ⟨g,2,none⟩=some (.int .i64 0):=d.cell 2;have C:=d.frozen 0;have D:=d.frozen 1;have E:=d.frozen 2;have r:=af (t A n c m i);have HB:=af d;have s:=af m;have H:size≤n:=by omega
 have F:p+n≤1099511627776:=by omega
 have I:=af j;clear t d m j;by_cases he:e=0
 ·subst he;go_enter Tryz.func155,Tryz.ntmps155;go_wp2_with fail;refine r.out.mono ?_;rintro o w1⟨rfl,rfl⟩;go_wp2;all_goals
   go_ret;refine⟨fun h=>absurd rfl h,fun _=>⟨rfl,?_⟩⟩;exact fY.read HB.out s.out i f k G (by first|rw[if_pos ‹_›]|rw[if_neg ‹_›]) rfl (by omega)
 ·have B:(e !=0)=true:=by rw[bne_iff_ne];exact he
  have u:=af he;clear he;go_enter Tryz.func155,Tryz.ntmps155;go_wp2_with fail;refine r.out.mono ?_;rintro o w1⟨rfl,rfl⟩;go_wp2;go_ret;exact⟨fun _=>⟨rfl,fY.fail ⟨⟨A,n,c,HB.out,s.out,i⟩,f,k⟩ e⟩,fun h=>absurd h u.out⟩
theorem vP(g:Nat)(S:Nat→Prop)(l:List UInt8)(p:Nat)(f:Int)(i:Value)(w:World)(h:Rr w g S l p f)(b:f≠0):
  Calls Tryz.prog 155 #[.pointer (some ⟨g,0,none⟩),i] w fun e w'=>e= .returned (.bool false)∧w=w':=by
 obtain⟨⟨A,n,c,a,o,m⟩,d,q⟩:=h;have j:w.cell? ⟨g,2,none⟩=some (.int .i64 f):=a.cell 2;have k:(f !=0)=true:=by rw[bne_iff_ne];exact b
 clear a o b;go_enter Tryz.func155,Tryz.ntmps155;go_wp2;go_ret;exact⟨rfl,rfl⟩
theorem uQ(g:Nat)(S:Nat→Prop)(l:List UInt8)(p:Nat)(a:Nat)(b:Array Value)(w:World)(h:Rr w g S l p 0)
  (x:ByteArray)(size:Nat)(e:Int)(G:size≤l.length)(q:∀args w,(callFunc a args).run Tryz.prog w= .ok (.enter a args) w)
  (t:∀A n c,Rd w S 1 A n (l.map bv)→n≤c→Calls Tryz.prog a (#[.slice A n c]++b) w fun o w'=>o= .returned (.tuple #[.string x, .int .i64 size, .int .i64 e])∧w=w'):
  Calls Tryz.prog 145 #[.pointer (some ⟨g,0,none⟩), .func (.func a) #[] b] w (pe w g S l p (.string x) (.string ⟨#[]⟩) size e):=by
 obtain⟨⟨A,n,c,d,m,i⟩,f,k⟩:=h;have j:l.length=n:=by simpa using m.1
 have v:w.cell? ⟨g,0,none⟩=some (.slice A n c):=d.cell 0;have y:w.cell? ⟨g,1,none⟩=some (.int .i64 p):=d.cell 1;have z:w.cell? ⟨g,2,none⟩=some (.int .i64 0):=d.cell 2;have C:=d.frozen 0;have D:=d.frozen 1;have E:=d.frozen 2;have r:=af (t A n c m i);have HB:=af d;have s:=af m;have H:size≤n:=by omega
 have F:p+n≤1099511627776:=by omega
 have I:=af j;clear t d m j;by_cases he:e=0
 ·subst he;go_enter Tryz.func145,Tryz.ntmps145;go_wp2_with fail;refine r.out.mono ?_;rintro o w1⟨rfl,rfl⟩;go_wp2;all_goals
   go_ret;refine⟨fun h=>absurd rfl h,fun _=>⟨rfl,?_⟩⟩;exact fY.read HB.out s.out i f k G (by first|rw[if_pos ‹_›]|rw[if_neg ‹_›]) rfl (by omega)
 ·have B:(e !=0)=true:=by rw[bne_iff_ne];exact he
  have u:=af he;clear he;go_enter Tryz.func145,Tryz.ntmps145;go_wp2_with fail;refine r.out.mono ?_;rintro o w1⟨rfl,rfl⟩;go_wp2;go_ret;exact⟨fun _=>⟨rfl,fY.fail ⟨⟨A,n,c,HB.out,s.out,i⟩,f,k⟩ e⟩,fun h=>absurd h u.out⟩
theorem sS(g:Nat)(S:Nat→Prop)(l:List UInt8)(p:Nat)(f:Int)(i:Value)(w:World)(h:Rr w g S l p f)(b:f≠0):
  Calls Tryz.prog 145 #[.pointer (some ⟨g,0,none⟩),i] w fun e w'=>e= .returned (.string ⟨#[]⟩)∧w=w':=by
 obtain⟨⟨A,n,c,a,o,m⟩,d,q⟩:=h;have j:w.cell? ⟨g,2,none⟩=some (.int .i64 f):=a.cell 2;have k:(f !=0)=true:=by rw[bne_iff_ne];exact b
 clear a o b;go_enter Tryz.func145,Tryz.ntmps145;go_wp2;go_ret;exact⟨rfl,rfl⟩
end Go.Proofs.YtphjagkehiklkaaGreatDoor
namespace Go.Proofs.YtphjagkehiklkaaGreatDoor
open Go.RowKit
def bp(aP:Int)(l:List UInt8):Int×Nat×Int:=((pn l 9).1,(pn l 9).2.1,if(pn l 9).2.2=0∧aP<((pn l 9).1:Int)then 2 else((pn l 9).2.2:Nat))
def cY(l:List UInt8):Bool×Nat×Int:=if l.length=0 then(false,0,28)else if 1<(l[0]?.getD 0).toNat then(false,0,3)else((l[0]?.getD 0).toNat==1,1,0)
def cq(aP:Int)(l:List UInt8):List UInt8×Nat×Int:=
 if(pn l 9).2.2≠0 then([],0,((pn l 9).2.2:Nat))
 else if aP<((pn l 9).1:Int)∨16777216<(pn l 9).1 then([],0,5)
 else if l.length<(pn l 9).2.1+(pn l 9).1 then([],0,28)
 else((l.drop (pn l 9).2.1).take (pn l 9).1,(pn l 9).2.1+(pn l 9).1,0)
def aN{α:Type}(zero:α)(parse:List UInt8→α×Nat×Int)(st:List UInt8×Nat×Int):α×(List UInt8×Nat×Int):=
 if st.2.2≠0 then(zero,st)else if(parse st.1).2.2≠0 then(zero,(st.1,st.2.1,(parse st.1).2.2))else((parse st.1).1,(st.1.drop (parse st.1).2.1,st.2.1+(parse st.1).2.1,0))
def jD(w:World)(g:Nat)(S:Nat→Prop)(v:Value)(st:List UInt8×Nat×Int)(a:Ending)(w':World):Prop:=a= .returned v∧fY w g S w' st.1 st.2.1 st.2.2
theorem jD.ok{α:Type}{w w1:World}{g:Nat}{S:Nat→Prop}{l:List UInt8}{p:Nat}(zero:α)(parse:List UInt8→α×Nat×Int)(V:α→Value){d:Ending}{w':World}(i:Fr ag w w1)(f:g<w.heap.size)
  (h:pe w1 g S l p (V (parse l).1) (V zero) (parse l).2.1 (parse l).2.2 d w'):jD w g S (V (aN zero parse (l,p,0)).1) (aN zero parse (l,p,0)).2 d w':=by
 have b:∀{w2:World},Fr (eC g) w1 w2→Fr (eC g) w w2:=fun h=>(i.bP).trans h;by_cases he:(parse l).2.2=0
 ·obtain⟨c,a⟩:=h.2 he;have e:aN zero parse (l,p,0)=((parse l).1,(l.drop (parse l).2.1,p+(parse l).2.1,0)):=by simp[aN,he]
  rw[e];exact⟨c,a.rr,b a.fr⟩
 ·obtain⟨c,a⟩:=h.1 he;have e:aN zero parse (l,p,0)=(zero,(l,p,(parse l).2.2)):=by simp[aN,he]
  rw[e];exact⟨c,a.rr,b a.fr⟩
theorem jD.bad{α:Type}{w w1:World}{g:Nat}{S:Nat→Prop}{l:List UInt8}{p:Nat}{f:Int}(zero:α)(parse:List UInt8→α×Nat×Int)(V:α→Value){b:Ending}(c:Fr ag w w1)(h:Rr w g S l p f)(a:f≠0)(he:b= .returned (V zero)):
  jD w g S (V (aN zero parse (l,p,f)).1) (aN zero parse (l,p,f)).2 b w1:=by
 have e:aN zero parse (l,p,f)=(zero,(l,p,f)):=by simp[aN,a]
 rw[e];exact⟨he,h.kh c,c.bP⟩
theorem Rr.lt{w:World}{g:Nat}{S:Nat→Prop}{l:List UInt8}{p:Nat}{f:Int}(h:Rr w g S l p f):g<w.heap.size:=by
 obtain⟨⟨_,_,_,a,_⟩,_⟩:=h;exact a.lt
theorem yV:∀args w,(callFunc 149 args).run Tryz.prog w= .ok (.enter 149 args) w:=fun _ _=>by kernel_rfl
theorem Eu:∀args w,(callFunc 156 args).run Tryz.prog w= .ok (.enter 156 args) w:=fun _ _=>by kernel_rfl
theorem Ev:∀args w,(callFunc 146 args).run Tryz.prog w= .ok (.enter 146 args) w:=fun _ _=>by kernel_rfl
theorem xt(A:Option Addr)(n c b:Nat)(l:List UInt8)(aP:Int)(w:World)(S:Nat→Prop)(k:Rd w S 1 A n (l.map bv))(o:n≤1099511627776)(p:w.cell? ⟨b,0,none⟩=some (.int .i64 aP)):
  Calls Tryz.prog 149 #[.slice A n c, .pointer (some ⟨b,0,none⟩)] w fun e w'=>e= .returned (.tuple #[.int .i64 (bp aP l).1, .int .i64 ((bp aP l).2.1:Nat), .int .i64 (bp aP l).2.2])∧w=w':=by
 have d:=sq A n c l w S k o;have i:=yi l;have f:(pn l 9).2.2=0∨(pn l 9).2.2≠0:=by omega
 unfold bp;generalize(pn l 9).1=m at d i f⊢;generalize(pn l 9).2.1=a2 at d f⊢;generalize(pn l 9).2.2=a3 at d f⊢;have g:=af d;clear d k;rcases f with rfl|a
 ·by_cases hm:aP<(m:Int);·rw[if_pos ⟨rfl,hm⟩];go_enter Tryz.func149,Tryz.ntmps149;go_wp2_with fail;refine g.out.mono ?_;rintro e w1⟨rfl,rfl⟩;go_wp2;go_ret3;exact⟨rfl,rfl⟩
  ·rw[if_neg (fun h=>hm h.2)];go_enter Tryz.func149,Tryz.ntmps149;go_wp2_with fail;refine g.out.mono ?_;rintro e w1⟨rfl,rfl⟩;go_wp2;go_ret3;exact⟨rfl,rfl⟩
 ·have j:((a3:Int)==0)=false:=ku (by omega);rw[if_neg (fun h=>a h.1)];clear a;go_enter Tryz.func149,Tryz.ntmps149;go_wp2_with fail;refine g.out.mono ?_;rintro e w1⟨rfl,rfl⟩;go_wp2;go_ret3;exact⟨rfl,rfl⟩
theorem At(A:Option Addr)(n c:Nat)(l:List UInt8)(w:World)(S:Nat→Prop)(g:Rd w S 1 A n (l.map bv))(q:n≤1099511627776):
  Calls Tryz.prog 156 #[.slice A n c] w fun e w'=>e= .returned (.tuple #[.bool (cY l).1, .int .i64 ((cY l).2.1:Nat), .int .i64 (cY l).2.2])∧w=w':=by
 have o:l.length=n:=by simpa using g.1
 rw[show cY l=if n=0 then(false,0,28)else if 1<(l[0]?.getD 0).toNat then(false,0,3)else((l[0]?.getD 0).toNat==1,1,0)by unfold cY;rw[o]];clear o;by_cases f:n=0;·rw[if_pos f];subst f;clear g;go_enter Tryz.func156,Tryz.ntmps156;go_wp2;go_ret3;exact⟨rfl,rfl⟩
 ·rw[if_neg f];have r:((n:Int)==0)=false:=ku (by omega);have d:0<n:=by omega
  have i:(0:Int)<(n:Int):=by omega
  obtain⟨p,rfl,m⟩:=g.byte d;have h:w.cell? p=some (.int .u8 ((l[0]?.getD 0).toNat:Int)):=by simpa[Addr.add]using m
  clear g m f;generalize(l[0]?.getD 0).toNat=b at h⊢;by_cases k:1<b;·rw[if_pos k];go_enter Tryz.func156,Tryz.ntmps156;go_wp2;go_ret3;exact⟨rfl,rfl⟩
  ·rw[if_neg k];have a:(b==1)=((b:Int)==1):=by
    by_cases j:b=1;·subst j;rfl
    ·rw[beq_eq_false_iff_ne.2 j,ku (by omega)]
   rw[a];clear a;go_enter Tryz.func156,Tryz.ntmps156;go_wp2;go_ret3;exact⟨rfl,rfl⟩
theorem Ie{w:World}{S:Nat→Prop}{A:Option Addr}{n c a m:Nat}{l:List UInt8}(j:Rd w S 1 A n (l.map bv))(h:a+m≤n)(i:n≤c)(b:Option Addr)(g:b=if c=a then A else A.map (·.add a))(d:Nat):
  (convert 61 9 (.slice b m d)).run Tryz.prog w= .ok (.string ⟨((l.drop a).take m).toArray⟩) w:=by
 subst g;have f:=j.Jy (k:=a) (by omega) i;have e:=f.take (k:=m) (by omega);rw[Nat.mul_one,←List.map_take]at e;exact mR w S _ m d _ e
theorem AL(A:Option Addr)(n c b:Nat)(l:List UInt8)(aP:Int)(w:World)(S:Nat→Prop)(q:Rd w S 1 A n (l.map bv))(y:n≤1099511627776)(v:n≤c)(z:w.cell? ⟨b,0,none⟩=some (.int .i64 aP)):
  Calls Tryz.prog 146 #[.slice A n c, .pointer (some ⟨b,0,none⟩)] w fun e w'=>e= .returned (.tuple #[.string ⟨(cq aP l).1.toArray⟩, .int .i64 ((cq aP l).2.1:Nat), .int .i64 (cq aP l).2.2])∧w=w':=by
 have j:=sq A n c l w S q y;have s:=yi l;have k:=(zT l 9 (by omega)).2;have i:l.length=n:=by simpa using q.1
 have o:=af (fun a m h=>Ie (a:=a) (m:=m) q h v);unfold cq;generalize(pn l 9).1=f at j s⊢;generalize(pn l 9).2.1=a2 at j k⊢;generalize(pn l 9).2.2=a3 at j⊢;rw[i]at k⊢;have d:=af j;clear j q i;by_cases p:a3≠0
 ·rw[if_pos p];have x:((a3:Int)!=0)=true:=by rw[bne_iff_ne];omega
  clear p;go_enter Tryz.func146,Tryz.ntmps146;go_wp2_with fail;refine d.out.mono ?_;rintro e w1⟨rfl,rfl⟩;go_wp2;go_ret3;exact⟨rfl,rfl⟩
 ·rw[if_neg p];have r:a3=0:=by omega
  subst r;clear p;by_cases hm:aP<(f:Int);·rw[if_pos (.inl hm)];go_enter Tryz.func146,Tryz.ntmps146;go_wp2_with fail;refine d.out.mono ?_;rintro e w1⟨rfl,rfl⟩;go_wp2;go_ret3;exact⟨rfl,rfl⟩
  ·by_cases u:16777216<f;·rw[if_pos (.inr u)];go_enter Tryz.func146,Tryz.ntmps146;go_wp2_with fail;refine d.out.mono ?_;rintro e w1⟨rfl,rfl⟩;go_wp2;go_ret3;exact⟨rfl,rfl⟩
   ·rw[if_neg (by omega)];by_cases hlen:n<a2+f;·rw[if_pos hlen];go_enter Tryz.func146,Tryz.ntmps146;go_wp2_with fail;refine d.out.mono ?_;rintro e w1⟨rfl,rfl⟩;go_wp2;go_ret3;exact⟨rfl,rfl⟩
    ·rw[if_neg hlen];by_cases g:c=a2;·subst g;have t:=o.out c f (by omega) A (by simp) 0;clear o;go_enter Tryz.func146,Tryz.ntmps146;go_wp2_with fail;refine d.out.mono ?_;rintro e w1⟨rfl,rfl⟩;go_wp2;go_ret3;exact⟨rfl,rfl⟩
     ·have t:=o.out a2 f (by omega) (A.map (·.add a2)) (by rw[if_neg g]) (c-a2);clear o;go_enter Tryz.func146,Tryz.ntmps146;go_wp2_with fail;refine d.out.mono ?_;rintro e w1⟨rfl,rfl⟩;go_wp2;go_ret3;exact⟨rfl,rfl⟩
theorem vO(aP:Int)(l:List UInt8):(bp aP l).2.1≤l.length:=(zT l 9 (by omega)).2
theorem zO(l:List UInt8):(cY l).2.1≤l.length:=by
 unfold cY;repeat' split
 all_goals simp only
 all_goals omega
theorem zP(aP:Int)(l:List UInt8):(cq aP l).2.1≤l.length:=by
 unfold cq;repeat' split
 all_goals simp only
 all_goals omega
theorem Rr.Hm{w:World}{g:Nat}{S:Nat→Prop}{l:List UInt8}{p:Nat}{f:Int}(h:Rr w g S l p f){A:Option Addr}{n:Nat}{w':World}(a:Rd w' S 1 A n (l.map bv)):n≤1099511627776:=by
 have:=a.1;have:=h.small;simp at*;omega
theorem wA(x y:Value):(#[x]++#[y]:Array Value)=#[x,y]:=rfl
theorem En(x:Value):(#[x]++#[]:Array Value)=#[x]:=rfl
def tV(l:List UInt8):Value:= .string ⟨l.toArray⟩
theorem jW(g:Nat)(S:Nat→Prop)(l:List UInt8)(p:Nat)(f:Int)(aP:Int)(w:World)(h:Rr w g S l p f):
  Calls Tryz.prog 107 #[.pointer (some ⟨g,0,none⟩), .int .i64 aP] w (jD w g S (Value.int .i64 (aN 0 (bp aP) (l,p,f)).1) (aN 0 (bp aP) (l,p,f)).2):=by
 have a:=af h;clear h;have b:=af ((Fr.refl ag w).alloc (.cells #[.int .i64 aP] 3));by_cases i:f=0
 ·subst i;go_enter Tryz.func107,Tryz.ntmps107;go_wp2_with fail;have d:Hid (∀A n c,Rd (w.alloc (.cells #[.int .i64 aP] 3)) S 1 A n (l.map bv)→n≤c→Calls Tryz.prog 149 (#[.slice A n c]++#[.pointer (some ⟨w.heap.size,0,none⟩)]) (w.alloc (.cells #[.int .i64 aP] 3)) fun q w'=>q= .returned (.tuple #[.int .i64 (bp aP l).1, .int .i64 ((bp aP l).2.1:Nat), .int .i64 (bp aP l).2.2])∧w.alloc (.cells #[.int .i64 aP] 3)=w'):=by
   intro A n c o r;rw[wA];exact xt A n c w.heap.size l aP _ S o (a.out.Hm o) ((aq.new w _ _).cell 0)
  refine(zZ g S l p 149 #[.pointer (some ⟨w.heap.size,0,none⟩)] (w.alloc (.cells #[.int .i64 aP] 3)) (a.out.kh b.out) (bp aP l).1 (bp aP l).2.1 (bp aP l).2.2 (vO aP l) yV d.out).mono ?_;rintro e w1 m;have k:=af (jD.ok 0 (bp aP) (Value.int .i64) b.out a.out.lt m);obtain⟨rfl,_⟩:=k.out;clear m;go_wp2;go_ret;exact k.out
 ·have j:=af i;clear i;go_enter Tryz.func107,Tryz.ntmps107;go_wp2_with fail;refine(yl g S l p f _ _ (a.out.kh b.out) j.out).mono ?_;rintro e w1⟨rfl,rfl⟩;go_wp2;go_ret;exact jD.bad 0 (bp aP) (Value.int .i64) b.out a.out j.out rfl
theorem nQ(g:Nat)(S:Nat→Prop)(l:List UInt8)(p:Nat)(f:Int)(aP:Int)(w:World)(h:Rr w g S l p f):
  Calls Tryz.prog 104 #[.pointer (some ⟨g,0,none⟩), .int .i64 aP] w (jD w g S (tV (aN [] (cq aP) (l,p,f)).1) (aN [] (cq aP) (l,p,f)).2):=by
 have a:=af h;clear h;have b:=af ((Fr.refl ag w).alloc (.cells #[.int .i64 aP] 3));by_cases i:f=0
 ·subst i;go_enter Tryz.func104,Tryz.ntmps104;go_wp2_with fail;have d:Hid (∀A n c,Rd (w.alloc (.cells #[.int .i64 aP] 3)) S 1 A n (l.map bv)→n≤c→Calls Tryz.prog 146 (#[.slice A n c]++#[.pointer (some ⟨w.heap.size,0,none⟩)]) (w.alloc (.cells #[.int .i64 aP] 3)) fun r w'=>r= .returned (.tuple #[.string ⟨(cq aP l).1.toArray⟩, .int .i64 ((cq aP l).2.1:Nat), .int .i64 (cq aP l).2.2])∧w.alloc (.cells #[.int .i64 aP] 3)=w'):=by
   intro A n c q j;rw[wA];exact AL A n c w.heap.size l aP _ S q (a.out.Hm q) j ((aq.new w _ _).cell 0)
  refine(uQ g S l p 146 #[.pointer (some ⟨w.heap.size,0,none⟩)] (w.alloc (.cells #[.int .i64 aP] 3)) (a.out.kh b.out) ⟨(cq aP l).1.toArray⟩ (cq aP l).2.1 (cq aP l).2.2 (zP aP l) Ev d.out).mono ?_;rintro e w1 o;have m:=af (jD.ok [] (cq aP) tV b.out a.out.lt o);obtain⟨rfl,_⟩:=m.out;clear o;go_wp2;go_ret;exact m.out
 ·have k:=af i;clear i;go_enter Tryz.func104,Tryz.ntmps104;go_wp2_with fail;refine(sS g S l p f _ _ (a.out.kh b.out) k.out).mono ?_;rintro e w1⟨rfl,rfl⟩;go_wp2;go_ret;exact jD.bad [] (cq aP) tV b.out a.out k.out rfl
theorem Cn(g:Nat)(S:Nat→Prop)(l:List UInt8)(p:Nat)(f:Int)(w:World)(h:Rr w g S l p f):
  Calls Tryz.prog 119 #[.pointer (some ⟨g,0,none⟩)] w (jD w g S (Value.bool (aN false cY (l,p,f)).1) (aN false cY (l,p,f)).2):=by
 have a:=af h;clear h;by_cases d:f=0
 ·subst d;go_enter Tryz.func119,Tryz.ntmps119;go_wp2_with fail;have b:Hid (∀A n c,Rd w S 1 A n (l.map bv)→n≤c→Calls Tryz.prog 156 (#[.slice A n c]++#[]) w fun o w'=>o= .returned (.tuple #[.bool (cY l).1, .int .i64 ((cY l).2.1:Nat), .int .i64 (cY l).2.2])∧w=w'):=by
   intro A n c m q;rw[En];exact At A n c l _ S m (a.out.Hm m)
  refine(yk g S l p 156 #[] w a.out (cY l).1 (cY l).2.1 (cY l).2.2 (zO l) Eu b.out).mono ?_;rintro e w1 k;have j:=af (jD.ok false cY Value.bool aD a.out.lt k);obtain⟨rfl,_⟩:=j.out;clear k;go_wp2;go_ret;exact j.out
 ·have i:=af d;clear d;go_enter Tryz.func119,Tryz.ntmps119;go_wp2_with fail;refine(vP g S l p f _ _ a.out i.out).mono ?_;rintro e w1⟨rfl,rfl⟩;go_wp2;go_ret;exact jD.bad false cY Value.bool aD a.out i.out rfl
def JI(w:World)(l:List UInt8)(e:Ending)(w':World):Prop:=∃g S,e= .returned (.pointer (some ⟨g,0,none⟩))∧Rr w' g S l 0 0∧Fr ag w w'∧w.heap.size≤g∧∀k,S k→w.heap.size≤k∧k<w'.heap.size
theorem ov(A:Option Addr)(n c:Nat)(l:List UInt8)(w:World)(S:Nat→Prop)(g:Rd w S 1 A n (l.map bv))(r:n≤1099511627776):Calls Tryz.prog 69 #[.slice A n c] w (JI w l):=by
 have d:l.length=n:=by simpa using g.1
 have p:=af d;have o:=af (tu A n c l w S g r);clear d g;go_enter Tryz.func69,Tryz.ntmps69;go_wp2_with fail;refine o.out.mono ?_;rintro e w1⟨v1,rfl,a⟩;obtain⟨i,n1,j,rfl,H1,f⟩:=aU a.own;have b:=af a;clear a;go_wp2;go_ret;have q:=pF.rd b.out.own H1.out;refine⟨w1.heap.size,mZ (.slice i n1 j),rfl,⟨⟨i,n1,j,aq.new _ _ _,q.ar (aD.alloc _),f.out⟩,fun h=>?_,?_⟩,b.out.ar.alloc _,b.out.fr.size,fun k m=>⟨b.out.new k m,by have:=(b.out.own.lt _ m).2;simp;omega⟩⟩;·have:=(b.out.own.lt _ h).2;omega
 ·have:=p.out;omega
theorem Cp(g:Nat)(S:Nat→Prop)(l:List UInt8)(p:Nat)(f:Int)(w:World)(h:Rr w g S l p f):
  Calls Tryz.prog 117 #[.pointer (some ⟨g,0,none⟩)] w fun e w'=>e= .returned (.int .i64 (l.length:Nat))∧w=w':=by
 obtain⟨⟨A,n,c,b,i,k⟩,d,m⟩:=h;have a:l.length=n:=by simpa using i.1
 have j:w.cell? ⟨g,0,none⟩=some (.slice A n c):=b.cell 0;rw[a];clear b i a;go_enter Tryz.func117,Tryz.ntmps117;go_wp2;go_ret;exact⟨rfl,rfl⟩
theorem sL(g:Nat)(S:Nat→Prop)(l:List UInt8)(p:Nat)(f:Int)(w:World)(h:Rr w g S l p f):
  Calls Tryz.prog 72 #[.pointer (some ⟨g,0,none⟩)] w fun e w'=>e= .returned (.int .i64 (if f=0 then(if 0<l.length then 5 else 0)else f))∧w=w':=by
 obtain⟨⟨A,n,c,d,k,r⟩,i,s⟩:=h;have a:l.length=n:=by simpa using k.1
 have m:w.cell? ⟨g,0,none⟩=some (.slice A n c):=d.cell 0;have o:w.cell? ⟨g,2,none⟩=some (.int .i64 f):=d.cell 2;rw[a];clear d k a;by_cases b:f=0
 ·subst b;rw[if_pos rfl];by_cases j:0<n;·rw[if_pos j];go_enter Tryz.func72,Tryz.ntmps72;go_wp2;go_ret;exact⟨rfl,rfl⟩
  ·rw[if_neg j];go_enter Tryz.func72,Tryz.ntmps72;go_wp2;go_ret;exact⟨rfl,rfl⟩
 ·rw[if_neg b];have q:(f !=0)=true:=by rw[bne_iff_ne];exact b
  clear b;go_enter Tryz.func72,Tryz.ntmps72;go_wp2;go_ret;exact⟨rfl,rfl⟩
end Go.Proofs.YtphjagkehiklkaaGreatDoor
