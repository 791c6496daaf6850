/- Texts. -/
import Derived.Lib.ConvBytes
import Derived.Test.YtphjagkehiklkaaGreatDoorUK02
set_option linter.unusedVariables false
set_option linter.unusedSimpArgs false
set_option maxRecDepth 100000
set_option maxHeartbeats 1000000
namespace Go.Proofs.YtphjagkehiklkaaGreatDoor
open Go.RowKit
structure Rr(w:World)(g:Nat)(S:Nat→Prop)(l:List UInt8)(p:Nat)(f:Int):Prop where
 ex:∃A n c,ak w g 193 #[.slice A n c, .int .i64 p, .int .i64 f]∧Rd w S 1 A n (l.map bv)∧n≤c
 bV:¬S g
 small:p+l.length≤1099511627776
def dJ(g:Nat):Nat→Prop:=fun k=>k=g
structure fi(w:World)(g:Nat)(S:Nat→Prop)(w':World)(l:List UInt8)(p:Nat)(f:Int):Prop where
 rr:Rr w' g S l p f
 fr:Fr (dJ g) w w'
theorem Rr.jQ{w w':World}{g:Nat}{S T:Nat→Prop}{l:List UInt8}{p:Nat}{f:Int}(h:Rr w g S l p f)(e:Fr T w w')(i:¬T g)(j:∀k,S k→¬T k):Rr w' g S l p f:=by
 obtain⟨⟨A,n,c,m,o,b⟩,a,d⟩:=h;exact⟨⟨A,n,c,m.fr e i,o.fr e j,b⟩,a,d⟩
theorem Rr.jH{w w':World}{g:Nat}{S:Nat→Prop}{l:List UInt8}{p:Nat}{f:Int}(h:Rr w g S l p f)(a:Fr af w w'):Rr w' g S l p f:=h.jQ a (fun x=>x) (fun _ _ x=>x)
theorem fi.fail{w:World}{g:Nat}{S:Nat→Prop}{l:List UInt8}{p:Nat}{f:Int}(h:Rr w g S l p f)(e:Int):fi w g S (w.setCell ⟨g,2,none⟩ (.int .i64 e)) l p e:=by
 obtain⟨⟨A,n,c,j,o,b⟩,a,d⟩:=h;have i:Fr (dJ g) w (w.setCell ⟨g,2,none⟩ (.int .i64 e)):=(Fr.refl (dJ g) _).setCell (p:=⟨g,2,none⟩) (fun _=>(rfl:dJ g g)) _;exact⟨⟨⟨A,n,c,by simpa using j.iV 2 (.int .i64 e),o.fr i (fun k m e=>a (e▸m)),b⟩,a,d⟩,i⟩
theorem Rd.Hk{w:World}{S:Nat→Prop}{A:Option Addr}{n k c:Nat}{l:List UInt8}(h:Rd w S 1 A n (l.map bv))(b:k≤n)(a:n≤c):
  Rd w S 1 (if c=k then A else A.map (·.add k)) (n-k) ((l.drop k).map bv):=by
 have:=h.cut b a;rw[Nat.mul_one,←List.map_drop]at this;exact this
theorem fi.read{w:World}{g:Nat}{S:Nat→Prop}{l:List UInt8}{p:Nat}{A:Option Addr}{n c size:Nat}(q:ak w g 193 #[.slice A n c, .int .i64 p, .int .i64 0])(m:Rd w S 1 A n (l.map bv))(h:n≤c)(a:¬S g)(u:p+l.length≤1099511627776)(v:size≤l.length)
  {b:Option Addr}{i d:Nat}(o:b=if c=size then A else A.map (·.add size))(t:i=n-size)(f:d=c-size):
  fi w g S ((w.setCell ⟨g,0,none⟩ (.slice b i d)).setCell ⟨g,1,none⟩ (.int .i64 ((p:Int)+(size:Int)))) (l.drop size) (p+size) 0:=by
 have s:l.length=n:=by simpa using m.1
 have j:Fr (dJ g) w ((w.setCell ⟨g,0,none⟩ (.slice b i d)).setCell ⟨g,1,none⟩ (.int .i64 ((p:Int)+(size:Int)))):=((Fr.refl (dJ g) _).setCell (p:=⟨g,0,none⟩) (fun _=>(rfl:dJ g g)) _).setCell (p:=⟨g,1,none⟩) (fun _=>(rfl:dJ g g)) _;subst o t f;refine⟨⟨⟨_,_,_,by simpa[Int.natCast_add]using(q.iV 0 (.slice (if c=size then A else A.map (·.add size)) (n-size) (c-size))).iV 1 (.int .i64 ((p:Int)+(size:Int))),(m.Hk (by omega) h).fr j (fun k r e=>a (e▸r)),by omega⟩,a,by simp;omega⟩,j⟩
def nV(w:World)(g:Nat)(S:Nat→Prop)(l:List UInt8)(p:Nat)(val zero:Value)(size:Nat)(e:Int)(a:Ending)(w':World):Prop:=
 (e≠0→a= .returned zero∧fi w g S w' l p e)∧(e=0→a= .returned val∧fi w g S w' (l.drop size) (p+size) 0)
theorem yL(g:Nat)(S:Nat→Prop)(l:List UInt8)(p:Nat)(a:Nat)(b:Array Value)(w:World)(h:Rr w g S l p 0)
  (x:Int)(size:Nat)(e:Int)(G:size≤l.length)(q:∀args w,(callFunc a args).run Tryz.prog w= .ok (.enter a args) w)
  (t:∀A n c,Rd w S 1 A n (l.map bv)→n≤c→Calls Tryz.prog a (#[.slice A n c]++b) w fun o w'=>o= .returned (.tuple #[.int .i64 x, .int .i64 size, .int .i64 e])∧w=w'):
  Calls Tryz.prog 148 #[.pointer (some ⟨g,0,none⟩), .func (.func a) #[] b] w (nV w g S l p (.int .i64 x) (.int .i64 0) size e):=by
 obtain⟨⟨A,n,c,d,m,i⟩,f,k⟩:=h;have j:l.length=n:=by simpa using m.1
 have v:w.cell? ⟨g,0,none⟩=some (.slice A n c):=d.cell 0;have y:w.cell? ⟨g,1,none⟩=some (.int .i64 p):=d.cell 1;have z:w.cell? ⟨g,2,none⟩=some (.int .i64 0):=d.cell 2;have C:=d.frozen 0;have D:=d.frozen 1;have E:=d.frozen 2;have r:=Lib.hid (t A n c m i);have HB:=Lib.hid d;have s:=Lib.hid m;have H:size≤n:=by omega
 have F:p+n≤1099511627776:=by omega
 have I:=Lib.hid j;clear t d m j;by_cases he:e=0
 ·subst he;go_enter Tryz.func148,Tryz.ntmps148;go_wp2_with fail;refine r.out.mono ?_;rintro o w1⟨rfl,rfl⟩;go_wp2;all_goals
   go_ret;refine⟨fun h=>absurd rfl h,fun _=>⟨rfl,?_⟩⟩;exact fi.read HB.out s.out i f k G (by first|rw[if_pos ‹_›]|rw[if_neg ‹_›]) rfl (by omega)
 ·have B:(e !=0)=true:=by rw[bne_iff_ne];exact he
  have u:=Lib.hid he;clear he;go_enter Tryz.func148,Tryz.ntmps148;go_wp2_with fail;refine r.out.mono ?_;rintro o w1⟨rfl,rfl⟩;go_wp2;go_ret;exact⟨fun _=>⟨rfl,fi.fail ⟨⟨A,n,c,HB.out,s.out,i⟩,f,k⟩ e⟩,fun h=>absurd h u.out⟩
theorem xg(g:Nat)(S:Nat→Prop)(l:List UInt8)(p:Nat)(f:Int)(i:Value)(w:World)(h:Rr w g S l p f)(b:f≠0):
  Calls Tryz.prog 148 #[.pointer (some ⟨g,0,none⟩),i] w fun e w'=>e= .returned (.int .i64 0)∧w=w':=by
 obtain⟨⟨A,n,c,a,o,m⟩,d,q⟩:=h;have j:w.cell? ⟨g,2,none⟩=some (.int .i64 f):=a.cell 2;have k:(f !=0)=true:=by rw[bne_iff_ne];exact b
 clear a o b;go_enter Tryz.func148,Tryz.ntmps148;go_wp2;go_ret;exact⟨rfl,rfl⟩
theorem xf(g:Nat)(S:Nat→Prop)(l:List UInt8)(p:Nat)(a:Nat)(b:Array Value)(w:World)(h:Rr w g S l p 0)
  (x:Bool)(size:Nat)(e:Int)(G:size≤l.length)(q:∀args w,(callFunc a args).run Tryz.prog w= .ok (.enter a args) w)
  (t:∀A n c,Rd w S 1 A n (l.map bv)→n≤c→Calls Tryz.prog a (#[.slice A n c]++b) w fun o w'=>o= .returned (.tuple #[.bool x, .int .i64 size, .int .i64 e])∧w=w'):
  Calls Tryz.prog 155 #[.pointer (some ⟨g,0,none⟩), .func (.func a) #[] b] w (nV w g S l p (.bool x) (.bool false) size e):=by
 obtain⟨⟨A,n,c,d,m,i⟩,f,k⟩:=h;have j:l.length=n:=by simpa using m.1
 have v:w.cell? ⟨g,0,none⟩=some (.slice A n c):=d.cell 0;have y:w.cell? ⟨g,1,none⟩=some (.int .i64 p):=d.cell 1;have z:w.cell? ⟨g,2,none⟩=some (.int .i64 0):=d.cell 2;have C:=d.frozen 0;have D:=d.frozen 1;have E:=d.frozen 2;have r:=Lib.hid (t A n c m i);have HB:=Lib.hid d;have s:=Lib.hid m;have H:size≤n:=by omega
 have F:p+n≤1099511627776:=by omega
 have I:=Lib.hid j;clear t d m j;by_cases he:e=0
 ·subst he;go_enter Tryz.func155,Tryz.ntmps155;go_wp2_with fail;refine r.out.mono ?_;rintro o w1⟨rfl,rfl⟩;go_wp2;all_goals
   go_ret;refine⟨fun h=>absurd rfl h,fun _=>⟨rfl,?_⟩⟩;exact fi.read HB.out s.out i f k G (by first|rw[if_pos ‹_›]|rw[if_neg ‹_›]) rfl (by omega)
 ·have B:(e !=0)=true:=by rw[bne_iff_ne];exact he
  have u:=Lib.hid he;clear he;go_enter Tryz.func155,Tryz.ntmps155;go_wp2_with fail;refine r.out.mono ?_;rintro o w1⟨rfl,rfl⟩;go_wp2;go_ret;exact⟨fun _=>⟨rfl,fi.fail ⟨⟨A,n,c,HB.out,s.out,i⟩,f,k⟩ e⟩,fun h=>absurd h u.out⟩
theorem uw(g:Nat)(S:Nat→Prop)(l:List UInt8)(p:Nat)(f:Int)(i:Value)(w:World)(h:Rr w g S l p f)(b:f≠0):
  Calls Tryz.prog 155 #[.pointer (some ⟨g,0,none⟩),i] w fun e w'=>e= .returned (.bool false)∧w=w':=by
 obtain⟨⟨A,n,c,a,o,m⟩,d,q⟩:=h;have j:w.cell? ⟨g,2,none⟩=some (.int .i64 f):=a.cell 2;have k:(f !=0)=true:=by rw[bne_iff_ne];exact b
 clear a o b;go_enter Tryz.func155,Tryz.ntmps155;go_wp2;go_ret;exact⟨rfl,rfl⟩
theorem tL(g:Nat)(S:Nat→Prop)(l:List UInt8)(p:Nat)(a:Nat)(b:Array Value)(w:World)(h:Rr w g S l p 0)
  (x:ByteArray)(size:Nat)(e:Int)(G:size≤l.length)(q:∀args w,(callFunc a args).run Tryz.prog w= .ok (.enter a args) w)
  (t:∀A n c,Rd w S 1 A n (l.map bv)→n≤c→Calls Tryz.prog a (#[.slice A n c]++b) w fun o w'=>o= .returned (.tuple #[.string x, .int .i64 size, .int .i64 e])∧w=w'):
  Calls Tryz.prog 145 #[.pointer (some ⟨g,0,none⟩), .func (.func a) #[] b] w (nV w g S l p (.string x) (.string ⟨#[]⟩) size e):=by
 obtain⟨⟨A,n,c,d,m,i⟩,f,k⟩:=h;have j:l.length=n:=by simpa using m.1
 have v:w.cell? ⟨g,0,none⟩=some (.slice A n c):=d.cell 0;have y:w.cell? ⟨g,1,none⟩=some (.int .i64 p):=d.cell 1;have z:w.cell? ⟨g,2,none⟩=some (.int .i64 0):=d.cell 2;have C:=d.frozen 0;have D:=d.frozen 1;have E:=d.frozen 2;have r:=Lib.hid (t A n c m i);have HB:=Lib.hid d;have s:=Lib.hid m;have H:size≤n:=by omega
 have F:p+n≤1099511627776:=by omega
 have I:=Lib.hid j;clear t d m j;by_cases he:e=0
 ·subst he;go_enter Tryz.func145,Tryz.ntmps145;go_wp2_with fail;refine r.out.mono ?_;rintro o w1⟨rfl,rfl⟩;go_wp2;all_goals
   go_ret;refine⟨fun h=>absurd rfl h,fun _=>⟨rfl,?_⟩⟩;exact fi.read HB.out s.out i f k G (by first|rw[if_pos ‹_›]|rw[if_neg ‹_›]) rfl (by omega)
 ·have B:(e !=0)=true:=by rw[bne_iff_ne];exact he
  have u:=Lib.hid he;clear he;go_enter Tryz.func145,Tryz.ntmps145;go_wp2_with fail;refine r.out.mono ?_;rintro o w1⟨rfl,rfl⟩;go_wp2;go_ret;exact⟨fun _=>⟨rfl,fi.fail ⟨⟨A,n,c,HB.out,s.out,i⟩,f,k⟩ e⟩,fun h=>absurd h u.out⟩
theorem rP(g:Nat)(S:Nat→Prop)(l:List UInt8)(p:Nat)(f:Int)(i:Value)(w:World)(h:Rr w g S l p f)(b:f≠0):
  Calls Tryz.prog 145 #[.pointer (some ⟨g,0,none⟩),i] w fun e w'=>e= .returned (.string ⟨#[]⟩)∧w=w':=by
 obtain⟨⟨A,n,c,a,o,m⟩,d,q⟩:=h;have j:w.cell? ⟨g,2,none⟩=some (.int .i64 f):=a.cell 2;have k:(f !=0)=true:=by rw[bne_iff_ne];exact b
 clear a o b;go_enter Tryz.func145,Tryz.ntmps145;go_wp2;go_ret;exact⟨rfl,rfl⟩
end Go.Proofs.YtphjagkehiklkaaGreatDoor
namespace Go.Proofs.YtphjagkehiklkaaGreatDoor
open Go.RowKit
def aT(aJ:Int)(l:List UInt8):Int×Nat×Int:=((pn l 9).1,(pn l 9).2.1,if(pn l 9).2.2=0∧aJ<((pn l 9).1:Int)then 2 else((pn l 9).2.2:Nat))
def bH(l:List UInt8):Bool×Nat×Int:=if l.length=0 then(false,0,28)else if 1<(l[0]?.getD 0).toNat then(false,0,3)else((l[0]?.getD 0).toNat==1,1,0)
def bJ(aJ:Int)(l:List UInt8):List UInt8×Nat×Int:=
 if(pn l 9).2.2≠0 then([],0,((pn l 9).2.2:Nat))
 else if aJ<((pn l 9).1:Int)∨16777216<(pn l 9).1 then([],0,5)
 else if l.length<(pn l 9).2.1+(pn l 9).1 then([],0,28)
 else((l.drop (pn l 9).2.1).take (pn l 9).1,(pn l 9).2.1+(pn l 9).1,0)
def aF{α:Type}(zero:α)(parse:List UInt8→α×Nat×Int)(st:List UInt8×Nat×Int):α×(List UInt8×Nat×Int):=
 if st.2.2≠0 then(zero,st)else if(parse st.1).2.2≠0 then(zero,(st.1,st.2.1,(parse st.1).2.2))else((parse st.1).1,(st.1.drop (parse st.1).2.1,st.2.1+(parse st.1).2.1,0))
def iX(w:World)(g:Nat)(S:Nat→Prop)(v:Value)(st:List UInt8×Nat×Int)(a:Ending)(w':World):Prop:=a= .returned v∧fi w g S w' st.1 st.2.1 st.2.2
theorem iX.ok{α:Type}{w w1:World}{g:Nat}{S:Nat→Prop}{l:List UInt8}{p:Nat}(zero:α)(parse:List UInt8→α×Nat×Int)(V:α→Value){d:Ending}{w':World}(i:Fr af w w1)(f:g<w.heap.size)
  (h:nV w1 g S l p (V (parse l).1) (V zero) (parse l).2.1 (parse l).2.2 d w'):iX w g S (V (aF zero parse (l,p,0)).1) (aF zero parse (l,p,0)).2 d w':=by
 have b:∀{w2:World},Fr (dJ g) w1 w2→Fr (dJ g) w w2:=fun h=>(i.bA).trans h;by_cases he:(parse l).2.2=0
 ·obtain⟨c,a⟩:=h.2 he;have e:aF zero parse (l,p,0)=((parse l).1,(l.drop (parse l).2.1,p+(parse l).2.1,0)):=by simp[aF,he]
  rw[e];exact⟨c,a.rr,b a.fr⟩
 ·obtain⟨c,a⟩:=h.1 he;have e:aF zero parse (l,p,0)=(zero,(l,p,(parse l).2.2)):=by simp[aF,he]
  rw[e];exact⟨c,a.rr,b a.fr⟩
theorem iX.bad{α:Type}{w w1:World}{g:Nat}{S:Nat→Prop}{l:List UInt8}{p:Nat}{f:Int}(zero:α)(parse:List UInt8→α×Nat×Int)(V:α→Value){b:Ending}(c:Fr af w w1)(h:Rr w g S l p f)(a:f≠0)(he:b= .returned (V zero)):
  iX w g S (V (aF zero parse (l,p,f)).1) (aF zero parse (l,p,f)).2 b w1:=by
 have e:aF zero parse (l,p,f)=(zero,(l,p,f)):=by simp[aF,a]
 rw[e];exact⟨he,h.jH c,c.bA⟩
theorem Rr.lt{w:World}{g:Nat}{S:Nat→Prop}{l:List UInt8}{p:Nat}{f:Int}(h:Rr w g S l p f):g<w.heap.size:=by
 obtain⟨⟨_,_,_,a,_⟩,_⟩:=h;exact a.lt
theorem xL:∀args w,(callFunc 149 args).run Tryz.prog w= .ok (.enter 149 args) w:=fun _ _=>by kernel_rfl
theorem Cu:∀args w,(callFunc 156 args).run Tryz.prog w= .ok (.enter 156 args) w:=fun _ _=>by kernel_rfl
theorem Cv:∀args w,(callFunc 146 args).run Tryz.prog w= .ok (.enter 146 args) w:=fun _ _=>by kernel_rfl
theorem vR(A:Option Addr)(n c b:Nat)(l:List UInt8)(aJ:Int)(w:World)(S:Nat→Prop)(k:Rd w S 1 A n (l.map bv))(o:n≤1099511627776)(p:w.cell? ⟨b,0,none⟩=some (.int .i64 aJ)):
  Calls Tryz.prog 149 #[.slice A n c, .pointer (some ⟨b,0,none⟩)] w fun e w'=>e= .returned (.tuple #[.int .i64 (aT aJ l).1, .int .i64 ((aT aJ l).2.1:Nat), .int .i64 (aT aJ l).2.2])∧w=w':=by
 have d:=rh A n c l w S k o;have i:=xe l;have f:(pn l 9).2.2=0∨(pn l 9).2.2≠0:=by omega
 unfold aT;generalize(pn l 9).1=m at d i f⊢;generalize(pn l 9).2.1=a2 at d f⊢;generalize(pn l 9).2.2=a3 at d f⊢;have g:=Lib.hid d;clear d k;rcases f with rfl|a
 ·by_cases hm:aJ<(m:Int);·rw[if_pos ⟨rfl,hm⟩];go_enter Tryz.func149,Tryz.ntmps149;go_wp2_with fail;refine g.out.mono ?_;rintro e w1⟨rfl,rfl⟩;go_wp2;go_ret3;exact⟨rfl,rfl⟩
  ·rw[if_neg (fun h=>hm h.2)];go_enter Tryz.func149,Tryz.ntmps149;go_wp2_with fail;refine g.out.mono ?_;rintro e w1⟨rfl,rfl⟩;go_wp2;go_ret3;exact⟨rfl,rfl⟩
 ·have j:((a3:Int)==0)=false:=beq_eq_false_iff_ne.2 (by omega);rw[if_neg (fun h=>a h.1)];clear a;go_enter Tryz.func149,Tryz.ntmps149;go_wp2_with fail;refine g.out.mono ?_;rintro e w1⟨rfl,rfl⟩;go_wp2;go_ret3;exact⟨rfl,rfl⟩
theorem zd(A:Option Addr)(n c:Nat)(l:List UInt8)(w:World)(S:Nat→Prop)(g:Rd w S 1 A n (l.map bv))(q:n≤1099511627776):
  Calls Tryz.prog 156 #[.slice A n c] w fun e w'=>e= .returned (.tuple #[.bool (bH l).1, .int .i64 ((bH l).2.1:Nat), .int .i64 (bH l).2.2])∧w=w':=by
 have o:l.length=n:=by simpa using g.1
 rw[show bH l=if n=0 then(false,0,28)else if 1<(l[0]?.getD 0).toNat then(false,0,3)else((l[0]?.getD 0).toNat==1,1,0)by unfold bH;rw[o]];clear o;by_cases f:n=0;·rw[if_pos f];subst f;clear g;go_enter Tryz.func156,Tryz.ntmps156;go_wp2;go_ret3;exact⟨rfl,rfl⟩
 ·rw[if_neg f];have r:((n:Int)==0)=false:=beq_eq_false_iff_ne.2 (by omega);have d:0<n:=by omega
  have i:(0:Int)<(n:Int):=by omega
  obtain⟨p,rfl,m⟩:=g.byte d;have h:w.cell? p=some (.int .u8 ((l[0]?.getD 0).toNat:Int)):=by simpa[Addr.add]using m
  clear g m f;generalize(l[0]?.getD 0).toNat=b at h⊢;by_cases k:1<b;·rw[if_pos k];go_enter Tryz.func156,Tryz.ntmps156;go_wp2;go_ret3;exact⟨rfl,rfl⟩
  ·rw[if_neg k];have a:(b==1)=((b:Int)==1):=by
    by_cases j:b=1;·subst j;rfl
    ·rw[beq_eq_false_iff_ne.2 j,beq_eq_false_iff_ne.2 (by omega)]
   rw[a];clear a;go_enter Tryz.func156,Tryz.ntmps156;go_wp2;go_ret3;exact⟨rfl,rfl⟩
theorem FG{w:World}{S:Nat→Prop}{A:Option Addr}{n c a m:Nat}{l:List UInt8}(j:Rd w S 1 A n (l.map bv))(h:a+m≤n)(i:n≤c)(b:Option Addr)(g:b=if c=a then A else A.map (·.add a))(d:Nat):
  (convert 61 9 (.slice b m d)).run Tryz.prog w= .ok (.string ⟨((l.drop a).take m).toArray⟩) w:=by
 subst g;have f:=j.Hk (k:=a) (by omega) i;have e:=f.take (k:=m) (by omega);rw[Nat.mul_one,←List.map_take]at e;exact lR w S _ m d _ e
theorem zr(A:Option Addr)(n c b:Nat)(l:List UInt8)(aJ:Int)(w:World)(S:Nat→Prop)(q:Rd w S 1 A n (l.map bv))(y:n≤1099511627776)(v:n≤c)(z:w.cell? ⟨b,0,none⟩=some (.int .i64 aJ)):
  Calls Tryz.prog 146 #[.slice A n c, .pointer (some ⟨b,0,none⟩)] w fun e w'=>e= .returned (.tuple #[.string ⟨(bJ aJ l).1.toArray⟩, .int .i64 ((bJ aJ l).2.1:Nat), .int .i64 (bJ aJ l).2.2])∧w=w':=by
 have j:=rh A n c l w S q y;have s:=xe l;have k:=(yF l 9 (by omega)).2;have i:l.length=n:=by simpa using q.1
 have o:=Lib.hid (fun a m h=>FG (a:=a) (m:=m) q h v);unfold bJ;generalize(pn l 9).1=f at j s⊢;generalize(pn l 9).2.1=a2 at j k⊢;generalize(pn l 9).2.2=a3 at j⊢;rw[i]at k⊢;have d:=Lib.hid j;clear j q i;by_cases p:a3≠0
 ·rw[if_pos p];have x:((a3:Int)!=0)=true:=by rw[bne_iff_ne];omega
  clear p;go_enter Tryz.func146,Tryz.ntmps146;go_wp2_with fail;refine d.out.mono ?_;rintro e w1⟨rfl,rfl⟩;go_wp2;go_ret3;exact⟨rfl,rfl⟩
 ·rw[if_neg p];have r:a3=0:=by omega
  subst r;clear p;by_cases hm:aJ<(f:Int);·rw[if_pos (.inl hm)];go_enter Tryz.func146,Tryz.ntmps146;go_wp2_with fail;refine d.out.mono ?_;rintro e w1⟨rfl,rfl⟩;go_wp2;go_ret3;exact⟨rfl,rfl⟩
  ·by_cases u:16777216<f;·rw[if_pos (.inr u)];go_enter Tryz.func146,Tryz.ntmps146;go_wp2_with fail;refine d.out.mono ?_;rintro e w1⟨rfl,rfl⟩;go_wp2;go_ret3;exact⟨rfl,rfl⟩
   ·rw[if_neg (by omega)];by_cases hlen:n<a2+f;·rw[if_pos hlen];go_enter Tryz.func146,Tryz.ntmps146;go_wp2_with fail;refine d.out.mono ?_;rintro e w1⟨rfl,rfl⟩;go_wp2;go_ret3;exact⟨rfl,rfl⟩
    ·rw[if_neg hlen];by_cases g:c=a2;·subst g;have t:=o.out c f (by omega) A (by simp) 0;clear o;go_enter Tryz.func146,Tryz.ntmps146;go_wp2_with fail;refine d.out.mono ?_;rintro e w1⟨rfl,rfl⟩;go_wp2;go_ret3;exact⟨rfl,rfl⟩
     ·have t:=o.out a2 f (by omega) (A.map (·.add a2)) (by rw[if_neg g]) (c-a2);clear o;go_enter Tryz.func146,Tryz.ntmps146;go_wp2_with fail;refine d.out.mono ?_;rintro e w1⟨rfl,rfl⟩;go_wp2;go_ret3;exact⟨rfl,rfl⟩
theorem uu(aJ:Int)(l:List UInt8):(aT aJ l).2.1≤l.length:=(yF l 9 (by omega)).2
theorem yB(l:List UInt8):(bH l).2.1≤l.length:=by
 unfold bH;repeat' split
 all_goals simp only
 all_goals omega
theorem yC(aJ:Int)(l:List UInt8):(bJ aJ l).2.1≤l.length:=by
 unfold bJ;repeat' split
 all_goals simp only
 all_goals omega
theorem Rr.Fj{w:World}{g:Nat}{S:Nat→Prop}{l:List UInt8}{p:Nat}{f:Int}(h:Rr w g S l p f){A:Option Addr}{n:Nat}{w':World}(a:Rd w' S 1 A n (l.map bv)):n≤1099511627776:=by
 have:=a.1;have:=h.small;simp at*;omega
theorem uK(x y:Value):(#[x]++#[y]:Array Value)=#[x,y]:=rfl
theorem Co(x:Value):(#[x]++#[]:Array Value)=#[x]:=rfl
def tV(l:List UInt8):Value:= .string ⟨l.toArray⟩
theorem jq(g:Nat)(S:Nat→Prop)(l:List UInt8)(p:Nat)(f:Int)(aJ:Int)(w:World)(h:Rr w g S l p f):
  Calls Tryz.prog 107 #[.pointer (some ⟨g,0,none⟩), .int .i64 aJ] w (iX w g S (Value.int .i64 (aF 0 (aT aJ) (l,p,f)).1) (aF 0 (aT aJ) (l,p,f)).2):=by
 have a:=Lib.hid h;clear h;have b:=Lib.hid ((Fr.refl af w).alloc (.cells #[.int .i64 aJ] 3));by_cases i:f=0
 ·subst i;go_enter Tryz.func107,Tryz.ntmps107;go_wp2_with fail;have d:Hid (∀A n c,Rd (w.alloc (.cells #[.int .i64 aJ] 3)) S 1 A n (l.map bv)→n≤c→Calls Tryz.prog 149 (#[.slice A n c]++#[.pointer (some ⟨w.heap.size,0,none⟩)]) (w.alloc (.cells #[.int .i64 aJ] 3)) fun q w'=>q= .returned (.tuple #[.int .i64 (aT aJ l).1, .int .i64 ((aT aJ l).2.1:Nat), .int .i64 (aT aJ l).2.2])∧w.alloc (.cells #[.int .i64 aJ] 3)=w'):=by
   intro A n c o r;rw[uK];exact vR A n c w.heap.size l aJ _ S o (a.out.Fj o) ((ak.new w _ _).cell 0)
  refine(yL g S l p 149 #[.pointer (some ⟨w.heap.size,0,none⟩)] (w.alloc (.cells #[.int .i64 aJ] 3)) (a.out.jH b.out) (aT aJ l).1 (aT aJ l).2.1 (aT aJ l).2.2 (uu aJ l) xL d.out).mono ?_;rintro e w1 m;have k:=Lib.hid (iX.ok 0 (aT aJ) (Value.int .i64) b.out a.out.lt m);obtain⟨rfl,_⟩:=k.out;clear m;go_wp2;go_ret;exact k.out
 ·have j:=Lib.hid i;clear i;go_enter Tryz.func107,Tryz.ntmps107;go_wp2_with fail;refine(xg g S l p f _ _ (a.out.jH b.out) j.out).mono ?_;rintro e w1⟨rfl,rfl⟩;go_wp2;go_ret;exact iX.bad 0 (aT aJ) (Value.int .i64) b.out a.out j.out rfl
theorem mC(g:Nat)(S:Nat→Prop)(l:List UInt8)(p:Nat)(f:Int)(aJ:Int)(w:World)(h:Rr w g S l p f):
  Calls Tryz.prog 104 #[.pointer (some ⟨g,0,none⟩), .int .i64 aJ] w (iX w g S (tV (aF [] (bJ aJ) (l,p,f)).1) (aF [] (bJ aJ) (l,p,f)).2):=by
 have a:=Lib.hid h;clear h;have b:=Lib.hid ((Fr.refl af w).alloc (.cells #[.int .i64 aJ] 3));by_cases i:f=0
 ·subst i;go_enter Tryz.func104,Tryz.ntmps104;go_wp2_with fail;have d:Hid (∀A n c,Rd (w.alloc (.cells #[.int .i64 aJ] 3)) S 1 A n (l.map bv)→n≤c→Calls Tryz.prog 146 (#[.slice A n c]++#[.pointer (some ⟨w.heap.size,0,none⟩)]) (w.alloc (.cells #[.int .i64 aJ] 3)) fun r w'=>r= .returned (.tuple #[.string ⟨(bJ aJ l).1.toArray⟩, .int .i64 ((bJ aJ l).2.1:Nat), .int .i64 (bJ aJ l).2.2])∧w.alloc (.cells #[.int .i64 aJ] 3)=w'):=by
   intro A n c q j;rw[uK];exact zr A n c w.heap.size l aJ _ S q (a.out.Fj q) j ((ak.new w _ _).cell 0)
  refine(tL g S l p 146 #[.pointer (some ⟨w.heap.size,0,none⟩)] (w.alloc (.cells #[.int .i64 aJ] 3)) (a.out.jH b.out) ⟨(bJ aJ l).1.toArray⟩ (bJ aJ l).2.1 (bJ aJ l).2.2 (yC aJ l) Cv d.out).mono ?_;rintro e w1 o;have m:=Lib.hid (iX.ok [] (bJ aJ) tV b.out a.out.lt o);obtain⟨rfl,_⟩:=m.out;clear o;go_wp2;go_ret;exact m.out
 ·have k:=Lib.hid i;clear i;go_enter Tryz.func104,Tryz.ntmps104;go_wp2_with fail;refine(rP g S l p f _ _ (a.out.jH b.out) k.out).mono ?_;rintro e w1⟨rfl,rfl⟩;go_wp2;go_ret;exact iX.bad [] (bJ aJ) tV b.out a.out k.out rfl
theorem Az(g:Nat)(S:Nat→Prop)(l:List UInt8)(p:Nat)(f:Int)(w:World)(h:Rr w g S l p f):
  Calls Tryz.prog 119 #[.pointer (some ⟨g,0,none⟩)] w (iX w g S (Value.bool (aF false bH (l,p,f)).1) (aF false bH (l,p,f)).2):=by
 have a:=Lib.hid h;clear h;by_cases d:f=0
 ·subst d;go_enter Tryz.func119,Tryz.ntmps119;go_wp2_with fail;have b:Hid (∀A n c,Rd w S 1 A n (l.map bv)→n≤c→Calls Tryz.prog 156 (#[.slice A n c]++#[]) w fun o w'=>o= .returned (.tuple #[.bool (bH l).1, .int .i64 ((bH l).2.1:Nat), .int .i64 (bH l).2.2])∧w=w'):=by
   intro A n c m q;rw[Co];exact zd A n c l _ S m (a.out.Fj m)
  refine(xf g S l p 156 #[] w a.out (bH l).1 (bH l).2.1 (bH l).2.2 (yB l) Cu b.out).mono ?_;rintro e w1 k;have j:=Lib.hid (iX.ok false bH Value.bool (Fr.refl _ _) a.out.lt k);obtain⟨rfl,_⟩:=j.out;clear k;go_wp2;go_ret;exact j.out
 ·have i:=Lib.hid d;clear d;go_enter Tryz.func119,Tryz.ntmps119;go_wp2_with fail;refine(uw g S l p f _ _ a.out i.out).mono ?_;rintro e w1⟨rfl,rfl⟩;go_wp2;go_ret;exact iX.bad false bH Value.bool (Fr.refl _ _) a.out i.out rfl
def Hs(w:World)(l:List UInt8)(e:Ending)(w':World):Prop:=∃g S,e= .returned (.pointer (some ⟨g,0,none⟩))∧Rr w' g S l 0 0∧Fr af w w'∧w.heap.size≤g∧∀k,S k→w.heap.size≤k∧k<w'.heap.size
theorem mU(A:Option Addr)(n c:Nat)(l:List UInt8)(w:World)(S:Nat→Prop)(g:Rd w S 1 A n (l.map bv))(r:n≤1099511627776):Calls Tryz.prog 69 #[.slice A n c] w (Hs w l):=by
 have d:l.length=n:=by simpa using g.1
 have p:=Lib.hid d;have o:=Lib.hid (so A n c l w S g r);clear d g;go_enter Tryz.func69,Tryz.ntmps69;go_wp2_with fail;refine o.out.mono ?_;rintro e w1⟨v1,rfl,a⟩;obtain⟨i,n1,j,rfl,H1,f⟩:=aP a.own;have b:=Lib.hid a;clear a;go_wp2;go_ret;have q:=oz.rd b.out.own H1.out;refine⟨w1.heap.size,lY (.slice i n1 j),rfl,⟨⟨i,n1,j,ak.new _ _ _,q.al ((Fr.refl _ _).alloc _),f.out⟩,fun h=>?_,?_⟩,b.out.al.alloc _,b.out.fr.size,fun k m=>⟨b.out.new k m,by have:=(b.out.own.lt _ m).2;simp;omega⟩⟩;·have:=(b.out.own.lt _ h).2;omega
 ·have:=p.out;omega
theorem AD(g:Nat)(S:Nat→Prop)(l:List UInt8)(p:Nat)(f:Int)(w:World)(h:Rr w g S l p f):
  Calls Tryz.prog 117 #[.pointer (some ⟨g,0,none⟩)] w fun e w'=>e= .returned (.int .i64 (l.length:Nat))∧w=w':=by
 obtain⟨⟨A,n,c,b,i,k⟩,d,m⟩:=h;have a:l.length=n:=by simpa using i.1
 have j:w.cell? ⟨g,0,none⟩=some (.slice A n c):=b.cell 0;rw[a];clear b i a;go_enter Tryz.func117,Tryz.ntmps117;go_wp2;go_ret;exact⟨rfl,rfl⟩
theorem rI(g:Nat)(S:Nat→Prop)(l:List UInt8)(p:Nat)(f:Int)(w:World)(h:Rr w g S l p f):
  Calls Tryz.prog 72 #[.pointer (some ⟨g,0,none⟩)] w fun e w'=>e= .returned (.int .i64 (if f=0 then(if 0<l.length then 5 else 0)else f))∧w=w':=by
 obtain⟨⟨A,n,c,d,k,r⟩,i,s⟩:=h;have a:l.length=n:=by simpa using k.1
 have m:w.cell? ⟨g,0,none⟩=some (.slice A n c):=d.cell 0;have o:w.cell? ⟨g,2,none⟩=some (.int .i64 f):=d.cell 2;rw[a];clear d k a;by_cases b:f=0
 ·subst b;rw[if_pos rfl];by_cases j:0<n;·rw[if_pos j];go_enter Tryz.func72,Tryz.ntmps72;go_wp2;go_ret;exact⟨rfl,rfl⟩
  ·rw[if_neg j];go_enter Tryz.func72,Tryz.ntmps72;go_wp2;go_ret;exact⟨rfl,rfl⟩
 ·rw[if_neg b];have q:(f !=0)=true:=by rw[bne_iff_ne];exact b
  clear b;go_enter Tryz.func72,Tryz.ntmps72;go_wp2;go_ret;exact⟨rfl,rfl⟩
end Go.Proofs.YtphjagkehiklkaaGreatDoor
namespace Go.Proofs.YtphjagkehiklkaaGreatDoor
open Go.RowKit
def dM(s:ByteArray):List UInt8:=s.data.toList
theorem dc(s:ByteArray):(dM s).length=s.size:=by simp[dM]
structure sh(W w:World)(v:Value)(l:List UInt8):Prop where
 fr:Fr af W w
 row:∃g cap,v= .slice (some ⟨g,0,none⟩) l.length cap∧W.heap.size≤g∧g<w.heap.size∧l.length≤cap∧cap≤maxLen∧(∀j,j<cap→(w.cell? ⟨g,j,none⟩).isSome=true)∧
  (∀j,j<cap→w.frozen? ⟨g,j,none⟩=false)∧(∀j u,(l.map aU)[j]? =some u→w.cell? ⟨g,j,none⟩=some u)
theorem Dq:(Tryz.prog.info? 5).map (fun i=>(i.zero,i.size,i.bytes))=some (some (.int .u8 0),1,1):=by kernel_rfl
theorem sh.gj{W w:World}{base:Nat}{v:Value}{l:List UInt8}(h:w.ownsRow base 5 1 v l.length (l.map aU))(s:W.heap.size≤base)(p:Fr af W w)(q:l≠[]):sh W w v l:=by
 rcases h.2 with⟨rfl,m⟩|⟨g,cap,cur,rfl,n,a,f,c,o,i⟩
 ·cases l with
  |nil=>exact absurd rfl q
  |cons x r=>simp at m
 ·have e:g<w.heap.size:=by
   rcases Nat.lt_or_ge g w.heap.size with b|b;·exact b
   ·rw[Array.getElem?_eq_none b]at a;cases a
  refine⟨p,g,cap,rfl,by omega,e,f,c,fun j t=>?_,fun j _=>by simp[World.frozen?,a],fun j u hu=>?_⟩
  ·have d:j<cur.size:=by omega
   simp[World.cell?,a,d]
  ·have k:=h.cells (g:=g) rfl j u hu;rw[show(⟨g,0,none⟩:Addr).add j=⟨g,j,none⟩by unfold Addr.add;split<;>simp_all]at k;exact k
end Go.Proofs.YtphjagkehiklkaaGreatDoor
namespace Go.Proofs.YtphjagkehiklkaaGreatDoor
open Go.RowKit
theorem Ey(l:List UInt8):∀(s:ByteArray),(l.map (fun b:UInt8=>(b.toNat:Int))).foldl (fun r n=>r.push (UInt8.ofNat n.toNat)) s=⟨(s.data.toList++l).toArray⟩:=by
 induction l with
 |nil=>intro s;simp
 |cons b l a=>
  intro s;simp only[List.map_cons,List.foldl_cons];rw[a];congr 1;have e:UInt8.ofNat (Int.toNat (b.toNat:Int))=b:=by simp
  rw[e];simp[ByteArray.push]
theorem tW{P:Program}(w:World)(src dst e:TypeId)(q:P.underlying src=some (.slice e))(he:P.underlying e=some (.int .u8))(p:P.underlying dst=some .string)
  (S:Nat→Prop)(A:Option Addr)(n c:Nat)(l:List UInt8)(f:Rd w S 1 A n (l.map aU)):(convert src dst (.slice A n c)).run P w= .ok (.string ⟨l.toArray⟩) w:=by
 rw[run_convert_bytes_string w src dst e A n c q he p];have d:l.length=n:=by simpa using f.1
 rcases A with _|a
 ·have:l=[]:=by
   rcases Nat.eq_zero_or_pos n with h|h;·exact List.eq_nil_of_length_eq_zero (d.trans h)
   ·obtain⟨a,e,_⟩:=f.2 h;cases e
  subst this;rfl
 ·have o:∀j v,(l.map aU)[j]? =some v→w.cell? (a.add j)=some v:=by
   intro j v i;rcases Nat.eq_zero_or_pos n with h|h;·have:l=[]:=List.eq_nil_of_length_eq_zero (d.trans h);subst this;simp at i
   ·obtain⟨k,e,_,m⟩:=f.2 h;injection e with e;subst e;exact m j v i
  have g:=run_loadCells_list (P:=P) w a (l.map aU) o;rw[List.length_map,d]at g;rw[run_bytesToString w a n c (l.map (fun b:UInt8=>(b.toNat:Int))) (by rw[g];simp[aU,Function.comp_def])];rw[Ey];rfl
abbrev ze(w:World)(v:Value)(w':World)(a:Value)(l:List UInt8):Prop:=bF 5 1 w v w' a l.length (l.map aU)
theorem uD(s:ByteArray):Lib.strCells s=(dM s).map aU:=rfl
theorem iE(l:List UInt8):∀u∈l.map aU,u.oneCell'=true:=by
 intro u hu;obtain⟨b,_,rfl⟩:=List.mem_map.1 hu;rfl
theorem yq(n:Nat):aU (gm n)= .int .u8 ((n%256:Nat):Int):=by
 unfold aU gm;rw[UInt8.toNat_ofNat']
def lS(s:ByteArray):Value:= .string s
def dt(tag:UInt8)(a:List ByteArray)(k:Nat):List UInt8:=tag::gm a.length::(a.take k).flatMap fun p=>dx p.size++dM p
theorem qY(tag:UInt8)(a:List ByteArray)(k:Nat)(p:ByteArray)(h:a[k]? =some p):dt tag a (k+1)=dt tag a k++dx p.size++dM p:=by
 unfold dt;rw[List.take_add_one,h];simp[List.flatMap_append]
theorem sw(tag:UInt8)(a:List ByteArray)(k:Nat)(h:a.length≤k):dt tag a k=fV tag (a.map dM):=by
 unfold dt fV;rw[List.take_of_length_le h,List.length_map];congr 2;rw[List.flatMap_map];congr 1
def Joined(w:World)(s:ByteArray)(e:Ending)(w':World):Prop:=e= .returned (.tuple #[.string s, .int .i64 0])∧Fr af w w'
theorem zQ(n:Nat)(h:n<4294967296):[Value.int .u8 ((n:Int)/16777216), .int .u8 ((n:Int)/65536%256), .int .u8 ((n:Int)/256%256), .int .u8 ((n:Int)%256)]=(dx n).map aU:=by
 unfold dx;simp only[List.map_cons,List.map_nil,yq];rw[show((n/16777216%256:Nat):Int)=(n:Int)/16777216 by omega,show((n/65536%256:Nat):Int)=(n:Int)/65536%256 by omega,show((n/256%256:Nat):Int)=(n:Int)/256%256 by omega,show((n%256:Nat):Int)=(n:Int)%256 by omega]
end Go.Proofs.YtphjagkehiklkaaGreatDoor
namespace Go.Proofs.YtphjagkehiklkaaGreatDoor
open Go.RowKit
theorem zk(tag:UInt8)(a:List ByteArray)(k:Nat)(p:ByteArray)(h:a[k]? =some p):(dt tag a (k+1)).length=(dt tag a k).length+(4+p.size):=by
 rw[qY tag a k p h,List.length_append,List.length_append,dc];have:(dx p.size).length=4:=rfl;omega
theorem Cd(tag:UInt8)(a:List ByteArray)(A:Option Addr)(n c:Nat)(S:Nat→Prop)(w:World)(R:Rd w S 1 A n (a.map lS))(ar:n≤255)(ac:∀k,(dt tag a k).length≤1099511627776)(ab:∀p∈a,p.size<4294967296):
  Calls Tryz.prog 125 #[aU tag, .slice A n c] w (Joined w ⟨(fV tag (a.map dM)).toArray⟩):=by
 obtain⟨i0,M,g,j,l⟩:=info_parts Dq;have aa:=Lib.hid R;have z:Hid (a.length=n):=by have:=R.1;simpa[Hid]using this
 have I:=Lib.hid ac;have ag:=Lib.hid ab;have ah:Hid (fV tag (a.map dM)=dt tag a n):=(sw tag a n (by rw[z.out];exact Nat.le_refl _)).symm;generalize C:(⟨(fV tag (a.map dM)).toArray⟩:ByteArray)=RS at*;have O:=Lib.hid C;clear C;clear R ac ab;unfold aU;have aq:decide ((255:Int)<(n:Int))=false:=decide_eq_false (by omega);go_enter Tryz.func125,Tryz.ntmps125;go_wp2;go_loopw[18,6](fun i sz wr=>∃k:Nat,k≤n∧i= .int .i64 k∧sz= .int .i64 ((dt tag a k).length:Nat)∧wr=w)(fun i _ _=>n-(intOf i).toNat);case atStart=>exact⟨0,by omega,rfl,rfl,rfl⟩
 case round=>
  obtain⟨k,s,rfl,rfl,rfl⟩:=hrel;by_cases f:k<n
  ·obtain⟨am,u,rfl,_,hu,b⟩:=aa.out.at_ f;obtain⟨p,t,rfl⟩:∃p,a[k]? =some p∧u=lS p:=by
    rw[List.getElem?_map]at hu;cases h:a[k]? with
    |none=>rw[h]at hu;cases hu
    |some p=>rw[h]at hu;exact⟨p,rfl,(Option.some.inj hu).symm⟩
   have B:=Lib.hid (zk tag a k p t);have J:=I.out (k+1);rw[B.out]at J;unfold lS at b;clear hu t;have V:(k:Int)<(n:Int):=by omega
   generalize(dt tag a k).length=L at*;go_wp2;go_roundw;case rel=>exact⟨k+1,by omega,by go_num,by rw[B.out];go_num,by first|rfl|trivial⟩
   case measure=>simp[intOf];omega
  ·have D:decide ((k:Int)<(n:Int))=false:=decide_eq_false (by omega);have E:decide (k<n)=false:=decide_eq_false (by omega);have J:=I.out k;obtain⟨Z,ad⟩:∃Z,Z=(dt tag a k).length:=⟨_,rfl⟩;rw[←ad]at J⊢;clear ad s f;go_wp2_with(at_make;refine wpList_make_own _ rfl _ _ 61 rfl 0 5 i0 (.int .u8 0) 1 Tryz.underlying61 M g j _ _ _ Z rfl rfl ?zC ?zA ?zB (Nat.zero_le _) ?_);case zC=>rfl
   case zA=>rw[l];omega
   case zB=>unfold maxLen;omega
   intro w1 o G;have X:Hid (Fr af wr w1):=(Fr.grown G).mono (fun k _ s=>by cases s);have H1:=Lib.hid o;clear o G;go_wp2_with(at_builtin;refine cX _ rfl _ _ 61 rfl 5 i0 _ 1 1 Tryz.underlying61 M g j l rfl (by omega) _ _ _ rfl H1.out 2 _ _ rfl rfl rfl ?zD ?zE (by omega) ?_);case zD=>simp[Value.oneCell']
   case zE=>omega
   intro v2 w2 d;have Y:Hid (ze wr (.slice none 0 0) w2 v2 (dt tag a 0)):=by
    have e:(dt tag a 0).map aU=[Value.int .u8 (tag.toNat:Int), .int .u8 (n:Int)]:=by
     show[aU tag,aU (gm a.length)]=_;rw[yq,z.out,Nat.mod_eq_of_lt (by omega)];rfl
    have h:=bF.fresh X.out (fun k s=>by simp[Value.ownBlock]at s;omega) d;simp only[Hid,ze];rw[e];simpa[dt]using h
   clear d H1 X;obtain⟨w,hw⟩:∃x,x=wr:=⟨_,rfl⟩;subst hw;clear D E J;go_wp2;go_loopw[9,39](fun v i wr=>∃k:Nat,k≤n∧i= .int .i64 k∧ze w (.slice none 0 0) wr v (dt tag a k))(fun _ i _=>n-(intOf i).toNat);case atStart=>exact⟨0,by omega,rfl,Y.out⟩
   case round=>
    obtain⟨k,s,rfl,U⟩:=hrel;have q:=Lib.hid U;obtain⟨N,n1,zA,rfl,Q,_⟩:=aP U.own;clear U Y;by_cases f:k<n
    ·obtain⟨am,u,rfl,_,hu,r⟩:=aa.out.at_ f;obtain⟨p,t,rfl⟩:∃p,a[k]? =some p∧u=lS p:=by
      rw[List.getElem?_map]at hu;cases h:a[k]? with
      |none=>rw[h]at hu;cases hu
      |some p=>rw[h]at hu;exact⟨p,rfl,(Option.some.inj hu).symm⟩
     have B:=Lib.hid (qY tag a k p t);have W:p.size<4294967296:=ag.out p (List.mem_of_getElem? t);have ai:=Lib.hid (I.out k);have m:Hid ((dt tag a k).length+4+p.size≤1099511627776):=by
      have h:=I.out (k+1);rw[B.out,List.length_append,List.length_append,dc]at h;simp only[Hid];have:(dx p.size).length=4:=rfl;omega
     unfold lS at r;have b:=q.out.al.aj r (fun x=>x);clear hu t;have V:(k:Int)<(n:Int):=by omega
     go_wp2_with(at_builtin;refine cX _ rfl _ _ 61 rfl 5 i0 _ 1 1 Tryz.underlying61 M g j l rfl (by omega) _ _ _ rfl q.out.own 4 _ _ rfl rfl rfl ?f1 ?f2 (by omega) ?_);case f1=>simp[Value.oneCell']
     case f2=>have:=m.out;omega
     intro v2 w2 d;have y:Hid (ze w (.slice none 0 0) w2 v2 (dt tag a k++dx p.size)):=by
      have h:=q.out.trans d;rw[zQ p.size W]at h;simpa[Hid,ze,dx]using h
     obtain⟨ao,au,zB,rfl,ak,_⟩:=aP y.out.own;have K:=y.out.al.aj r (fun x=>x);clear d b q;go_wp2_with(at_builtin;refine kG _ rfl _ _ 61 9 rfl 5 i0 Tryz.underlying61 Tryz.underlying9 M g j l _ _ _ rfl y.out.own p rfl ?f3 ?_);case f3=>
      have:=m.out;have ap:(dx p.size).length=4:=rfl;rw[List.length_append];omega
     intro v3 an F;have ae:Hid (ze w (.slice none 0 0) an v3 (dt tag a (k+1))):=by
      have h:=y.out.trans F;rw[uD]at h;simp only[Hid];rw[B.out];simpa[ze,dc,Nat.add_assoc]using h
     clear F y;go_wp2;go_roundw;case rel=>exact⟨k+1,by omega,by go_num,ae.out⟩
     case measure=>simp[intOf];omega
    ·have D:decide ((k:Int)<(n:Int))=false:=decide_eq_false (by omega);have E:decide (k<n)=false:=decide_eq_false (by omega);rw[show k=n by omega]at q;have H:Rd wr (lY (.slice N n1 zA)) 1 N n1 ((dt tag a n).map aU):=by
      have h:=q.out.own;have e:n1=(dt tag a n).length:=by have:=Q.out;rw[show k=n by omega]at this;exact this
      rw[←e]at h;exact Rd.gj h
     have T:=tW (P:=Tryz.prog) wr 61 9 5 Tryz.underlying61 Tryz.underlying5 Tryz.underlying9 _ N n1 zA _ H;rw[←ah.out,O.out]at T;clear H;go_wp2;go_ret2;exact⟨rfl,q.out.al⟩
end Go.Proofs.YtphjagkehiklkaaGreatDoor
namespace Go.Proofs.YtphjagkehiklkaaGreatDoor
open Go.RowKit
theorem sh.alloc{W w:World}{v:Value}{l:List UInt8}(h:sh W w v l)(o:Obj):sh W (w.alloc o) v l:=by
 obtain⟨k,g,cap,rfl,a,d,f,c,i,n,m⟩:=h;have b:(w.alloc o).heap[g]? =w.heap[g]? :=Below.heap_alloc w o g d;refine⟨k.alloc _,g,cap,rfl,a,by simp;omega,f,c,fun j e=>?_,fun j e=>?_,fun j u hu=>?_⟩;·have:=i j e;simp only[World.cell?]at this⊢;rw[b];exact this
 ·have:=n j e;simp only[World.frozen?]at this⊢;rw[b];exact this
 ·have:=m j u hu;simp only[World.cell?]at this⊢;rw[b];exact this
theorem gV(n:Nat):aU (gm n)= .int .u8 ((n%256:Nat):Int):=by
 unfold aU gm;rw[UInt8.toNat_ofNat']
end Go.Proofs.YtphjagkehiklkaaGreatDoor
