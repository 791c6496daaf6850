/- Texts. -/
import Derived.Test.YtphjagkehiklkaaGreatDoorWK10
set_option linter.unusedVariables false
set_option linter.unusedSimpArgs false
set_option maxRecDepth 100000
set_option maxHeartbeats 8000000
namespace Go.Proofs.YtphjagkehiklkaaGreatDoor
open Go.RowKit
theorem oX{α:Type}(l:List α)(h:l≠[]):∃i x,l=i++[x]:=by
 rcases List.eq_nil_or_concat l with rfl|⟨i,b,rfl⟩;·exact absurd rfl h
 ·exact⟨i,b,by simp⟩
def ot(ds:List UInt8):Prop:=(∀b∈ds,lP b=true)∧ds≠[]∧ds[0]? ≠some 48
theorem uB{b:UInt8}(h:lP b=true):48≤b.toNat∧b.toNat≤57:=by simpa[lP]using h
theorem ot.init{i:List UInt8}{x:UInt8}(h:ot (i++[x]))(a:i≠[]):ot i:=by
 refine⟨fun b c=>h.1 b (by simp[c]),a,fun e=>h.2.2 ?_⟩;rw[List.getElem?_append_left (List.length_pos_iff.2 a)];exact e
theorem wX:∀(n:Nat)(ds:List UInt8),ds.length=n→ot ds→1≤eT ds:=by
 intro n;induction n with
 |zero=>intro ds h a;exact absurd (List.length_eq_zero_iff.1 h) a.2.1
 |succ n d=>
  intro ds h a;obtain⟨i,x,rfl⟩:=oX ds a.2.1;rw[lB];by_cases b:i=[];·subst b;have f:=uB (a.1 x (by simp));have c:x≠48:=fun e=>a.2.2 (by rw[e];rfl);have g:x.toNat≠48:=fun e=>c (UInt8.toNat_inj.1 e);omega
  ·have:=d i (by simpa using h) (a.init b);omega
theorem wW:∀(n:Nat)(ds es:List UInt8),ds.length=n→ot ds→ot es→eT ds=eT es→ds=es:=by
 intro n;induction n with
 |zero=>intro ds es h g;exact absurd (List.length_eq_zero_iff.1 h) g.2.1
 |succ n k=>
  intro ds es h c he e;obtain⟨i,x,rfl⟩:=oX ds c.2.1;obtain⟨j,y,rfl⟩:=oX es he.2.1;rw[lB,lB]at e;have l:=uB (c.1 x (by simp));have m:=uB (he.1 y (by simp));have f:x=y:=UInt8.toNat_inj.1 (by omega);have a:eT i=eT j:=by omega
  subst f;by_cases d:i=[]
  ·by_cases b:j=[];·rw[d,b]
   ·have:=wX _ j rfl (he.init b);rw[d]at a;simp[eT]at a;simp[eT]at this;omega
  ·by_cases b:j=[];·have:=wX _ i rfl (c.init d);rw[b]at a;simp[eT]at a;simp[eT]at this;omega
   ·rw[k i j (by simpa using h) (c.init d) (he.init b) a]
theorem Bm{c a:Nat}{l:List UInt8}(h:(cR c a l).1.e=0):ot (dy 7 l)∧(cR c a l).1.ord=eT (dy 7 l):=by
 simp only[cR]at h⊢;split at h;·simp at h
 ·rename_i f;rw[if_neg f];split at h;·simp at h
  ·rename_i g;rw[if_neg g];split at h;·simp at h
   ·rename_i b;rw[if_neg b];split at h;·simp at h
    ·rename_i d;rw[if_neg d];split at h;·simp at h
     ·rename_i i;rw[if_neg i];refine⟨⟨rT 7 l,b,fun e=>d ?_⟩,rfl⟩;have j:0<(dy 7 l).length:=List.length_pos_iff.2 b;rw[nS,List.getElem?_take_of_lt j]at e;exact e
theorem nP(n a:Nat)(l:List UInt8):dq n a l≠[]:=by
 cases n with
 |zero=>simp[dq]
 |succ n=>
  rw[dq];simp only;split;·simp
  ·split;·simp
   ·split<;>simp
theorem uK{n a:Nat}{l:List UInt8}(h:∀p∈dq (n+1) a l,p.e=0):
  ot (dy 7 l)∧((l=dy 7 l∧(dq (n+1) a l).map (·.ord)=[eT (dy 7 l)])∨
   ∃r,l=dy 7 l++46::r∧(dq (n+1) a l).map (·.ord)=eT (dy 7 l)::(dq n (a+(dy 7 l).length+1) r).map (·.ord)∧∀p∈dq n (a+(dy 7 l).length+1) r,p.e=0):=by
 rw[dq]at h⊢;simp only at h⊢;by_cases he:(cR (7-n) a l).1.e=0
 ·rw[if_neg (by simp[he])]at h⊢;obtain⟨i,g⟩:=Bm he;refine⟨i,?_⟩;have m:=kI 7 l;have f:=nS 7 l;by_cases b:l.length≤(dy 7 l).length;·rw[if_pos b];left;refine⟨?_,by simp[g]⟩;rw[List.take_of_length_le b]at f;exact f.symm
  ·rw[if_neg b]at h⊢;by_cases c:l[(dy 7 l).length]? =some 46;·rw[if_neg (by simp[c])]at h⊢;right;refine⟨l.drop ((dy 7 l).length+1),?_,by simp[g],fun p j=>h p (by simp[j])⟩;obtain⟨d,k⟩:=List.getElem?_eq_some_iff.1 c;conv=>lhs;rw[←List.take_append_drop (dy 7 l).length l,←f,List.drop_eq_getElem_cons d,k]
   ·rw[if_pos c]at h;have:=h ⟨0,a+(dy 7 l).length,6⟩ (by simp);simp at this
 ·rw[if_pos he]at h;exact absurd (h _ (by simp)) he
theorem sJ:∀(n a b:Nat)(l m:List UInt8),(∀p∈dq n a l,p.e=0)→(∀p∈dq n b m,p.e=0)→(dq n a l).map (·.ord)=(dq n b m).map (·.ord)→l=m
 |0,a,b,l,m,h,_,_=>by
  have:=h ⟨0,a,9⟩ (by simp[dq]);simp at this
 |n+1,a,b,l,m,h,k,e=>by
  obtain⟨g1,o⟩:=uK h;obtain⟨g2,i⟩:=uK k;rcases o with⟨g,f⟩|⟨r,g,f,q⟩
  ·rcases i with⟨d,c⟩|⟨s,d,c,j⟩;·rw[f,c]at e;rw[g,d];exact wW _ _ _ rfl g1 g2 (by simpa using e)
   ·rw[f,c]at e;simp only[List.cons.injEq]at e;exact absurd (List.map_eq_nil_iff.1 e.2.symm) (nP _ _ _)
  ·rcases i with⟨d,c⟩|⟨s,d,c,j⟩;·rw[f,c]at e;simp only[List.cons.injEq]at e;exact absurd (List.map_eq_nil_iff.1 e.2) (nP _ _ _)
   ·rw[f,c]at e;simp only[List.cons.injEq]at e;rw[g,d,wW _ _ _ rfl g1 g2 e.1,sJ n _ _ r s q j e.2]
theorem Cg{a b:ByteArray}(c:dc a=true)(d:dc b=true)(h:ji a=ji b):a=b:=by
 apply toList_inj;unfold dc at c d;rw[List.all_eq_true]at c d;simp only[beq_iff_eq]at c d;unfold ji at h;have hm:(fR a).map (·.ord)=(fR b).map (·.ord):=by
  have g:=congrArg (List.map Int.toNat) h;simpa[List.map_map,Function.comp_def]using g
 unfold fR at c d hm;by_cases f:a.size=0
 ·by_cases e:b.size=0;·rw[show a.toList=[]from List.length_eq_zero_iff.1 (by rw[eW];exact f),show b.toList=[]from List.length_eq_zero_iff.1 (by rw[eW];exact e)]
  ·rw[if_pos f,if_neg e]at hm;exact absurd (List.map_eq_nil_iff.1 hm.symm) (nP _ _ _)
 ·by_cases e:b.size=0;·rw[if_neg f,if_pos e]at hm;exact absurd (List.map_eq_nil_iff.1 hm) (nP _ _ _)
  ·rw[if_neg f]at c hm;rw[if_neg e]at d hm;exact sJ 8 0 0 _ _ c d hm
def qX(a:ByteArray):(Int×List Int)×ByteArray:=if dc a=true then((0,ji a),ByteArray.empty)else((1,[]),a)
theorem EZ(a b:ByteArray)(h:qX a=qX b):a=b:=by
 unfold qX at h;split at h
 ·rename_i c;split at h;·rename_i d;simp only[Prod.mk.injEq,true_and,and_true]at h;exact Cg c d h
  ·simp at h
 ·split at h;·simp at h
  ·simpa using h
def Dw(x y:(Int×List Int)×ByteArray):Int:=aV (aV (dN x.1.1 y.1.1) (cmpL dN x.1.2 y.1.2)) (ld x.2 y.2)
theorem zd:ik Dw:=((eS.lex (oC eS)).lex tW)
theorem Ey(a b:ByteArray):kq a b=Dw (qX a) (qX b):=by
 unfold kq;by_cases e:a=b;·subst e;rw[if_pos rfl,zd.refl]
 ·rw[if_neg e];unfold qX Dw;by_cases d:dc a=true
  ·rw[if_pos d,if_pos d];by_cases c:dc b=true
   ·rw[if_pos c,if_pos c];simp only[eS.refl,aV,if_true,tW.refl];split;·assumption
    ·rfl
   ·rw[if_neg c,if_neg c];rfl
  ·rw[if_neg d,if_neg d];by_cases c:dc b=true;·rw[if_pos c,if_pos c];rfl
   ·rw[if_neg c,if_neg c];simp only[eS.refl,aV,if_true,(oC eS).refl]
theorem ze:ik kq:=by
 have h:=zd.pull qX EZ;have e:kq=fun a b=>Dw (qX a) (qX b):=by funext a b;exact Ey a b
 rw[e];exact h
def Hn(n:aK):Int×ByteArray×Int×Int×ByteArray:=(n.kind,n.owner,n.number,n.index,n.text)
theorem cU:ik cT:=by
 have h:=(eS.lex (ze.lex (eS.lex (eS.lex tW)))).pull Hn (fun a b e=>by
  cases a;cases b;simpa[Hn]using e);exact h
end Go.Proofs.YtphjagkehiklkaaGreatDoor
namespace Go.Proofs.YtphjagkehiklkaaGreatDoor
open Go.RowKit Go.Shelf
theorem cy(a m:Int)(w:World):Calls Tryz.prog 153 #[.int .i64 a, .int .i64 m] w (aY w (.bool (decide (0≤a)&&decide (a≤m)))):=by
 by_cases b:0≤a;·have t1:decide (0≤a)=true:=decide_eq_true b;rw[t1];go_enter Tryz.func153,Tryz.ntmps153;go_wp2;go_ret;exact⟨by simp,rfl⟩
 ·have t1:decide (0≤a)=false:=decide_eq_false b;rw[t1];go_enter Tryz.func153,Tryz.ntmps153;go_wp2;go_ret;exact⟨rfl,rfl⟩
theorem sD(a:Int)(w:World):Calls Tryz.prog 152 #[.int .i64 a] w (aY w (.bool (decide (1≤a)&&decide (a≤20)))):=by
 by_cases b:1≤a;·have t1:decide (1≤a)=true:=decide_eq_true b;rw[t1];go_enter Tryz.func152,Tryz.ntmps152;go_wp2;go_ret;exact⟨by simp,rfl⟩
 ·have t1:decide (1≤a)=false:=decide_eq_false b;rw[t1];go_enter Tryz.func152,Tryz.ntmps152;go_wp2;go_ret;exact⟨rfl,rfl⟩
def nX(b:UInt8):Bool:=decide (33≤b.toNat)&&decide (b.toNat≤126)&&!(b.toNat==47)
def kj(s:ByteArray):Bool:=!s.toList.isEmpty&&decide (s.size≤32)&&s.toList.all nX
theorem Ek(s:ByteArray)(w:World)(H:s.size≤1099511627776):Calls Tryz.prog 154 #[.string s] w (aY w (.bool (kj s))):=by
 cases he:s.toList.isEmpty
 ·by_cases f:s.size≤32
  ·have t1:decide (32<(s.size:Int))=false:=ct (by omega);have D:=af he;have E:=af f;obtain⟨I,m⟩:∃I,I=kj s:=⟨_,rfl⟩;rw[←m];have d:Hid (I=s.toList.all nX):=by simp only[Hid];rw[m,kj,he,decide_eq_true f];rfl
   have l:Hid (∀i,i<s.size→∃b,∃h:i<s.size,s.toList[i]? =some b∧s[i]=b):=fun i z=>by
    have e:s.toList[i]? =some (s.toList[i]'(by rw[eW];exact z)):=List.getElem?_eq_getElem _;obtain⟨t,u⟩:=yt e;exact⟨_,t,e,u⟩
   clear f m;go_enter Tryz.func154,Tryz.ntmps154;go_wp2;go_loopw[13](fun i wr=>∃k:Nat,k≤s.size∧(∀b∈s.toList.take k,nX b=true)∧i= .int .i64 k∧w=wr)(fun i _=>s.size-(intOf i).toNat);case atStart=>exact⟨0,by omega,by simp,rfl,rfl⟩
   case round=>
    obtain⟨k,G,c,rfl,rfl⟩:=hrel;have r:=af c;clear c;by_cases n:k<s.size
    ·have v:(k:Int)<(s.size:Int):=by omega
     have y:(0:Int)≤(k:Int):=by omega
     obtain⟨b,F,e,t⟩:=l.out k n;have q:=af e;clear e;have g:∀h:nX b=false,I=false:=fun h=>by
      rw[d.out,List.all_eq_false];exact⟨b,List.mem_of_getElem? q.out,by rw[h];simp⟩
     have a:=af g;clear g;by_cases g1:33≤b.toNat
     ·have A:decide ((b.toNat:Int)<33)=false:=ct (by omega);have o:¬(b.toNat:Int)<33:=by omega
      by_cases g2:b.toNat≤126
      ·have B:decide ((126:Int)<(b.toNat:Int))=false:=ct (by omega);have p:¬(126:Int)<(b.toNat:Int):=by omega
       by_cases g3:b.toNat=47
       ·have C:((b.toNat:Int)==47)=true:=by rw[beq_iff_eq];omega
        obtain rfl:I=false:=a.out (by simp[nX,g3]);clear g1 g2 g3;go_wp2;go_ret;exact⟨rfl,rfl⟩
       ·have C:((b.toNat:Int)==47)=false:=by rw[beq_eq_false_iff_ne];omega
        have HB:Hid (nX b=true):=by simp[Hid,nX,g1,g2,g3]
        clear g1 g2 g3 a;go_wp2;go_roundw
        case rel=>exact⟨k+1,by omega,fun x j=>by
          rw[List.take_add_one,q.out,Option.toList_some,List.mem_append,List.mem_singleton]at j;rcases j with j|rfl;·exact r.out x j
          ·exact HB.out,by go_num,trivial⟩
        case measure=>simp[intOf];omega
      ·have B:decide ((126:Int)<(b.toNat:Int))=true:=dh (by omega);have p:(126:Int)<(b.toNat:Int):=by omega
       obtain rfl:I=false:=a.out (by simp[nX,g2]);clear g1 g2;go_wp2;go_ret;exact⟨rfl,rfl⟩
     ·have A:decide ((b.toNat:Int)<33)=true:=dh (by omega);have o:(b.toNat:Int)<33:=by omega
      obtain rfl:I=false:=a.out (by simp[nX,g1]);clear g1;go_wp2;go_ret;exact⟨rfl,rfl⟩
    ·obtain rfl:k=s.size:=by omega
     have v:¬(s.size:Int)<(s.size:Int):=by omega
     obtain rfl:I=true:=by
      rw[d.out,List.all_eq_true];have h:=r.out;rw[List.take_of_length_le (by rw[eW];omega)]at h;exact h
     go_wp2;go_ret;exact⟨rfl,rfl⟩
  ·have t1:decide (32<(s.size:Int))=true:=dh (by omega);have d:Hid (kj s=false):=by simp[Hid,kj,f]
   rw[d.out];clear f;go_enter Tryz.func154,Tryz.ntmps154;go_wp2;go_ret;exact⟨rfl,rfl⟩
 ·have d:Hid (kj s=false):=by simp[Hid,kj,he]
  rw[d.out];go_enter Tryz.func154,Tryz.ntmps154;go_wp2;go_ret;exact⟨rfl,rfl⟩
def pN(u:gT)(n:aK):Bool:=(u.owner||n.owner.toList.isEmpty)&&(u.number||n.number==0)&&(u.index||n.index==0)&&(u.text||n.text.toList.isEmpty)&&(!u.owner||dc n.owner)&&
 (!u.number||(decide (0≤n.number)&&decide (n.number≤1073741824)))&&(!u.index||(decide (0≤n.index)&&decide (n.index≤u.aP)))&&(!u.text||kj n.text)
def dA(n:aK):Bool:=decide (1≤n.kind)&&decide (n.kind≤20)&&(match ig[n.kind.toNat]? with|some u=>pN u n|none=>false)
def Checked(w:World)(n:aK)(e:Ending)(w':World):Prop:=∃k:Int,e= .returned (.int .i64 k)∧(k==0)=dA n∧Fr ag w w'
theorem gT.one(u:gT):u.cells.toArray.all (·.oneCell')=true:=by simp[gT.cells,Value.oneCell']
theorem yf(wd:ByteArray)(f e bi g:Bool)(h k:Int)(c d:ByteArray)(b a:Int):
  pN ⟨wd,f,e,bi,g,h⟩ ⟨k,c,b,a,d⟩=!((!f&&!c.toList.isEmpty)||(!e&&b !=0)||(!bi&&a !=0)||(!g&&!d.toList.isEmpty)||(f&&!dc c)||(e&&!(decide (0≤b)&&decide (b≤1073741824)))||(bi&&!(decide (0≤a)&&decide (a≤h)))||(g&&!kj d)):=by
 unfold pN;simp only[bne];generalize(decide (0≤b)&&decide (b≤1073741824))=i;generalize(decide (0≤a)&&decide (a≤h))=j;generalize(b==0)=d1;generalize(a==0)=d2;generalize dc c=v;generalize kj d=x;generalize c.toList.isEmpty=l;generalize d.toList.isEmpty=m;cases f<;>cases e<;>cases bi<;>cases g<;>simp[Bool.and_assoc]
theorem Ap(k:Nat)(r:ByteArray)(y t:Int)(s wd:ByteArray)(f d bi g:Bool)(A:Int)(w:World)(ba:eE w)(bo:1≤k∧k≤20)(hu:ig[k]? =some ⟨wd,f,d,bi,g,A⟩)(bb:r.size≤1099511627776)(bc:s.size≤1099511627776):
  Calls Tryz.prog 115 #[.agg #[.int .i64 (k:Int), .string r, .int .i64 y, .int .i64 t, .string s]] w (Checked w ⟨(k:Int),r,y,t,s⟩):=by
 have p:Hid (dA ⟨(k:Int),r,y,t,s⟩=pN ⟨wd,f,d,bi,g,A⟩ ⟨(k:Int),r,y,t,s⟩):=by
  simp only[Hid,dA,Int.toNat_natCast,hu];rw[dh (show(1:Int)≤(k:Int)by omega),dh (show(k:Int)≤20 by omega)];rfl
 have l:=af (yf wd f d bi g A k r s y t);obtain⟨aL,ad⟩:∃aL,aL=gT.cells ⟨wd,f,d,bi,g,A⟩:=⟨_,rfl⟩;have a4:Hid (∀j v,(gT.cells ⟨wd,f,d,bi,g,A⟩)[j]? =some v→w.cell? ⟨0,k*6+j,none⟩=some v):=ba.row k _ hu;have a1:Hid ((Tryz.prog.info? 189).map (·.size)=some (gT.cells ⟨wd,f,d,bi,g,A⟩).length):=jJ;have ab:Hid ((Tryz.prog.info? 189).map (·.size)=some (gT.cells ⟨wd,f,d,bi,g,A⟩).toArray.size):=jJ;have a3:=af (gT.one ⟨wd,f,d,bi,g,A⟩);have aa:=af ad;rw[←ad]at a4 a1 ab a3;have a6:Hid (∀w,Calls Tryz.prog 152 #[.int .i64 (k:Int)] w (aY w (.bool true))):=fun w=>by
  have h:=sD (k:Int) w;rw[dh (show(1:Int)≤(k:Int)by omega),dh (show(k:Int)≤20 by omega)]at h;exact h
 obtain⟨va,aj⟩:∃va,dc r=va:=⟨_,rfl⟩;obtain⟨R,al⟩:∃R,kj s=R:=⟨_,rfl⟩;obtain⟨am,ae⟩:∃c,(decide (0≤y)&&decide (y≤1073741824))=c:=⟨_,rfl⟩;obtain⟨ao,ah⟩:∃c,(decide (0≤t)&&decide (t≤A))=c:=⟨_,rfl⟩;have CV:Hid (∀w,Calls Tryz.prog 151 #[.string r] w (aJ w (.bool va))):=fun w=>by rw[←aj];exact nf r w bb
 have bg:Hid (∀w,Calls Tryz.prog 154 #[.string s] w (aJ w (.bool R))):=fun w=>by rw[←al];exact(Ek s w bc).mono (fun _ _ h=>⟨h.1,by rw[h.2];exact aD⟩)
 have bf:Hid (∀w,Calls Tryz.prog 153 #[.int .i64 y, .int .i64 1073741824] w (aY w (.bool am))):=fun w=>by rw[←ae];exact cy y 1073741824 w
 have be:Hid (∀w,Calls Tryz.prog 153 #[.int .i64 t, .int .i64 A] w (aY w (.bool ao))):=fun w=>by rw[←ah];exact cy t A w
 obtain⟨ap,bk⟩:∃ap:Bool,r.toList.isEmpty=!ap:=⟨!r.toList.isEmpty,by simp⟩;obtain⟨au,bn⟩:∃au:Bool,s.toList.isEmpty=!au:=⟨!s.toList.isEmpty,by simp⟩;obtain⟨ar,bl⟩:∃ar:Bool,(y !=0)=ar:=⟨_,rfl⟩;obtain⟨x3,bm⟩:∃x3:Bool,(t !=0)=x3:=⟨_,rfl⟩;rw[bk,bl,bm,bn,aj,al,ae,ah,Bool.not_not,Bool.not_not]at l;have bs:(k:Int)<21:=by omega
 have bt:k<21:=by omega
 have bu:(0:Int)≤(k:Int):=by omega
 clear ba bo hu bb bc ad aj al ae ah;go_enter Tryz.func115,Tryz.ntmps115;go_wp2_with(refine aA rfl 106 (.tmp 0) rfl #[.int .i64 (k:Int), .string r, .int .i64 y, .int .i64 t, .string s] rfl ?_);intro w1 n1;have aV:=af n1.fr;have av:=af n1.aH;clear n1;generalize w.heap.size=C at*;have ac:Hid (aq w1 C 106 #[.int .i64 (k:Int), .string r, .int .i64 y, .int .i64 t, .string s]):=av.out;clear av;have bh:w1.cell? ⟨C,0,none⟩=some (.int .i64 (k:Int)):=ac.out.cell 0;go_wp2_with fail;refine(a6.out _).mono ?_;rintro e w'⟨rfl,rfl⟩;go_wp2_with(refine aF rfl 189 (.tmp 10) rfl ⟨0,k*6,none⟩ rfl aL _ ?zB Tryz.underlying189 rfl a1.out (bj.go ?hold));case zB=>exact fun j x bp=>by rw[Addr.add_mid];exact aV.out.an (a4.out j x bp) (fun x=>x)
 unfold bj;go_wp2_with(refine ak rfl 189 rfl DT vz #[.string ByteArray.empty, .bool false, .bool false, .bool false, .bool false, .int .i64 0] rfl ?_);intro w2 bd;have a2:=af bd;clear bd;generalize aK:w1.heap.size=B at*;have Z:=af aK;clear aK;have a7:Hid (aq w2 B 189 #[.string ByteArray.empty, .bool false, .bool false, .bool false, .bool false, .int .i64 0]):=by have h:=a2.out.aH;rw[Z.out]at h;exact h
 go_wp2_with(refine ai rfl 189 (.tmp 3) _ rfl B aL.toArray rfl rfl _ _ a7.out ab.out (by rw[aa.out];rfl) a3.out ?_);intro w3 b3 f3;have n:Hid (aq w3 B 189 #[.string wd, .bool f, .bool d, .bool bi, .bool g, .int .i64 A]):=by have h:=b3;rw[aa.out]at h;exact h
 have S:Hid (Fr ag w1 w3):=a2.out.fr.aw f3 (fun i br e=>by have bq:i=B:=e;have:=Z.out;omega);have m:=af (aV.out.trans S.out);have o:=af (ac.out.fr S.out (fun x=>x));clear b3 f3 a2 a7 S aV ac bh Z a4 a1 ab a3 aa a6;obtain⟨aR,ax⟩:∃z:Bool,(bif f then false else ap)=z:=⟨_,rfl⟩;have T:=af ax;clear ax;go_upto_region 4 with fail;refine iQ 9 [.pointer (some ⟨B,1,none⟩), .bool f, .bool (!f), .bool (!f),bif f then undef else .pointer (some ⟨C,1,none⟩),bif f then undef else .string r,bif f then undef else .bool ap,bif f then .bool false else .bool ap, .bool aR] ?zC ?_;case zC=>
  refine⟨?xX,?zK,?zL,?zM,?zN,?zO,?zP,?zQ,?zR,trivial⟩;all_goals intro u w' b a
  all_goals simp only[z1,z2,z3,z4,ay,Act.put,z5,z6,z7,Nat.reduceAdd,Nat.zero_add]
  case zK=>
   simp only[show u 0=_ from a 0];refine aG ?_;have q:_=some (Value.bool f):=(n.out.fr b (fun x=>x)).cell 1;go_simp;exact aM
  case' zL=>simp only[show u 1=_ from a 1]
  case' zM=>simp only[show u 2=_ from a 2]
  case' zN=>
   simp only[show u 3=_ from a 3];cases f;case true=>exact bE
  case zO=>
   simp only[show u 4=_ from a 4,show u 3=_ from a 3];cases f;case true=>exact bE
   refine aG ?_;have q:_=some (Value.string r):=(o.out.fr b (fun x=>x)).cell 1;go_simp;exact aM
  case' zP=>
   simp only[show u 5=_ from a 5,show u 3=_ from a 3];cases f;case true=>exact bE
  case' zQ=>
   simp only[show u 3=_ from a 3,show u 6=_ from a 6];cases f
  case zR=>
   simp only[show u 7=_ from a 7];cases f<;>exact aG (by go_simp;exact⟨by rw[←T.out];rfl,aD⟩)
  all_goals
   try simp only[cond]
   refine aG ?_;go_simp;exact aM
 intro w' b;simp only[z1,z2,z3,z4,ay,Act.put,z5,z6,z7,z8,z9,jx,jy,Nat.reduceAdd,Nat.zero_add];have m:=af (m.out.trans b);have o:=af (o.out.fr b (fun x=>x));have n:=af (n.out.fr b (fun x=>x));clear b;have D:Hid ((!f&&ap)=aR):=by
  rw[Hid,←T.out];cases f<;>simp
 clear T;cases L:aR;case true=>
  rw[L]at D;clear L;go_wp2;go_ret;refine⟨_,rfl,?_,m.out⟩;rw[p.out,l.out,D.out];simp
 rw[L]at D;clear L;obtain⟨aS,az⟩:∃z:Bool,(bif d then false else ar)=z:=⟨_,rfl⟩;have U:=af az;clear az;go_upto_region 5 with fail;refine iQ 9 [.pointer (some ⟨B,2,none⟩), .bool d, .bool (!d), .bool (!d),bif d then undef else .pointer (some ⟨C,2,none⟩),bif d then undef else .int .i64 y,bif d then undef else .bool ar,bif d then .bool false else .bool ar, .bool aS] ?zD ?_;case zD=>
  refine⟨?xY,?zS,?zT,?zU,?zV,?zW,?zX,?zY,?zZ,trivial⟩;all_goals intro u w' b a
  all_goals simp only[z1,z2,z3,z4,ay,Act.put,z5,z6,z7,Nat.reduceAdd,Nat.zero_add]
  case zS=>
   simp only[show u 0=_ from a 0];refine aG ?_;have q:_=some (Value.bool d):=(n.out.fr b (fun x=>x)).cell 2;go_simp;exact aM
  case' zT=>simp only[show u 1=_ from a 1]
  case' zU=>simp only[show u 2=_ from a 2]
  case' zV=>
   simp only[show u 3=_ from a 3];cases d;case true=>exact bE
  case zW=>
   simp only[show u 4=_ from a 4,show u 3=_ from a 3];cases d;case true=>exact bE
   refine aG ?_;have q:_=some (Value.int .i64 y):=(o.out.fr b (fun x=>x)).cell 2;go_simp;exact aM
  case' zX=>
   simp only[show u 5=_ from a 5,show u 3=_ from a 3];cases d;case true=>exact bE
  case' zY=>
   simp only[show u 3=_ from a 3,show u 6=_ from a 6];cases d
  case zZ=>
   simp only[show u 7=_ from a 7];cases d<;>exact aG (by go_simp;exact⟨by rw[←U.out];rfl,aD⟩)
  all_goals
   try simp only[cond]
   refine aG ?_;go_simp;exact aM
 intro w' b;simp only[z1,z2,z3,z4,ay,Act.put,z5,z6,z7,z8,z9,jx,jy,Nat.reduceAdd,Nat.zero_add];have m:=af (m.out.trans b);have o:=af (o.out.fr b (fun x=>x));have n:=af (n.out.fr b (fun x=>x));clear b;have F:Hid ((!d&&ar)=aS):=by
  rw[Hid,←U.out];cases d<;>simp
 clear U;cases M:aS;case true=>
  rw[M]at F;clear M;go_wp2;go_ret;refine⟨_,rfl,?_,m.out⟩;rw[p.out,l.out,F.out];simp
 rw[M]at F;clear M;obtain⟨aT,aB⟩:∃z:Bool,(bif bi then false else x3)=z:=⟨_,rfl⟩;have V:=af aB;clear aB;go_upto_region 6 with fail;refine iQ 9 [.pointer (some ⟨B,3,none⟩), .bool bi, .bool (!bi), .bool (!bi),bif bi then undef else .pointer (some ⟨C,3,none⟩),bif bi then undef else .int .i64 t,bif bi then undef else .bool x3,bif bi then .bool false else .bool x3, .bool aT] ?zE ?_;case zE=>
  refine⟨?xZ,?yA,?yB,?yC,?yD,?yE,?yF,?yG,?yH,trivial⟩;all_goals intro u w' b a
  all_goals simp only[z1,z2,z3,z4,ay,Act.put,z5,z6,z7,Nat.reduceAdd,Nat.zero_add]
  case yA=>
   simp only[show u 0=_ from a 0];refine aG ?_;have q:_=some (Value.bool bi):=(n.out.fr b (fun x=>x)).cell 3;go_simp;exact aM
  case' yB=>simp only[show u 1=_ from a 1]
  case' yC=>simp only[show u 2=_ from a 2]
  case' yD=>
   simp only[show u 3=_ from a 3];cases bi;case true=>exact bE
  case yE=>
   simp only[show u 4=_ from a 4,show u 3=_ from a 3];cases bi;case true=>exact bE
   refine aG ?_;have q:_=some (Value.int .i64 t):=(o.out.fr b (fun x=>x)).cell 3;go_simp;exact aM
  case' yF=>
   simp only[show u 5=_ from a 5,show u 3=_ from a 3];cases bi;case true=>exact bE
  case' yG=>
   simp only[show u 3=_ from a 3,show u 6=_ from a 6];cases bi
  case yH=>
   simp only[show u 7=_ from a 7];cases bi<;>exact aG (by go_simp;exact⟨by rw[←V.out];rfl,aD⟩)
  all_goals
   try simp only[cond]
   refine aG ?_;go_simp;exact aM
 intro w' b;simp only[z1,z2,z3,z4,ay,Act.put,z5,z6,z7,z8,z9,jx,jy,Nat.reduceAdd,Nat.zero_add];have m:=af (m.out.trans b);have o:=af (o.out.fr b (fun x=>x));have n:=af (n.out.fr b (fun x=>x));clear b;have G:Hid ((!bi&&x3)=aT):=by
  rw[Hid,←V.out];cases bi<;>simp
 clear V;cases N:aT;case true=>
  rw[N]at G;clear N;go_wp2;go_ret;refine⟨_,rfl,?_,m.out⟩;rw[p.out,l.out,G.out];simp
 rw[N]at G;clear N;obtain⟨aU,aC⟩:∃z:Bool,(bif g then false else au)=z:=⟨_,rfl⟩;have W:=af aC;clear aC;go_upto_region 7 with fail;refine iQ 9 [.pointer (some ⟨B,4,none⟩), .bool g, .bool (!g), .bool (!g),bif g then undef else .pointer (some ⟨C,4,none⟩),bif g then undef else .string s,bif g then undef else .bool au,bif g then .bool false else .bool au, .bool aU] ?zF ?_;case zF=>
  refine⟨?ZA,?yI,?yJ,?yK,?yL,?yM,?yN,?yO,?yP,trivial⟩;all_goals intro u w' b a
  all_goals simp only[z1,z2,z3,z4,ay,Act.put,z5,z6,z7,Nat.reduceAdd,Nat.zero_add]
  case yI=>
   simp only[show u 0=_ from a 0];refine aG ?_;have q:_=some (Value.bool g):=(n.out.fr b (fun x=>x)).cell 4;go_simp;exact aM
  case' yJ=>simp only[show u 1=_ from a 1]
  case' yK=>simp only[show u 2=_ from a 2]
  case' yL=>
   simp only[show u 3=_ from a 3];cases g;case true=>exact bE
  case yM=>
   simp only[show u 4=_ from a 4,show u 3=_ from a 3];cases g;case true=>exact bE
   refine aG ?_;have q:_=some (Value.string s):=(o.out.fr b (fun x=>x)).cell 4;go_simp;exact aM
  case' yN=>
   simp only[show u 5=_ from a 5,show u 3=_ from a 3];cases g;case true=>exact bE
  case' yO=>
   simp only[show u 3=_ from a 3,show u 6=_ from a 6];cases g
  case yP=>
   simp only[show u 7=_ from a 7];cases g<;>exact aG (by go_simp;exact⟨by rw[←W.out];rfl,aD⟩)
  all_goals
   try simp only[cond]
   refine aG ?_;go_simp;exact aM
 intro w' b;simp only[z1,z2,z3,z4,ay,Act.put,z5,z6,z7,z8,z9,jx,jy,Nat.reduceAdd,Nat.zero_add];have m:=af (m.out.trans b);have o:=af (o.out.fr b (fun x=>x));have n:=af (n.out.fr b (fun x=>x));clear b;have I:Hid ((!g&&au)=aU):=by
  rw[Hid,←W.out];cases g<;>simp
 clear W;cases O:aU;case true=>
  rw[O]at I;clear O;go_wp2;go_ret;refine⟨_,rfl,?_,m.out⟩;rw[p.out,l.out,I.out];simp
 rw[O]at I;clear O;obtain⟨E,a8⟩:∃z:Bool,(bif f then(!va)else false)=z:=⟨_,rfl⟩;have aZ:=af a8;clear a8;go_upto_region 9 with fail;refine iQ 9 [.pointer (some ⟨B,1,none⟩), .bool f, .bool f,bif f then .pointer (some ⟨C,1,none⟩)else undef,bif f then .string r else undef,bif f then .bool va else undef,bif f then .bool (!va)else undef,bif f then .bool (!va)else .bool false, .bool E] ?zG ?_;case zG=>
  refine⟨?ZB,?yQ,?yR,?yS,?yT,?yU,?yV,?yW,?yX,trivial⟩;all_goals intro u w' b a
  all_goals simp only[z1,z2,z3,z4,ay,Act.put,z5,z6,z7,Nat.reduceAdd,Nat.zero_add]
  case yQ=>
   simp only[show u 0=_ from a 0];refine aG ?_;have q:_=some (Value.bool f):=(n.out.fr b (fun x=>x)).cell 1;go_simp;exact aM
  case' yR=>simp only[show u 1=_ from a 1]
  case' yS=>
   simp only[show u 2=_ from a 2];cases f;case false=>exact bE
  case yT=>
   simp only[show u 3=_ from a 3,show u 2=_ from a 2];cases f;case false=>exact bE
   refine aG ?_;have q:_=some (Value.string r):=(o.out.fr b (fun x=>x)).cell 1;go_simp;exact aM
  case yU=>
   simp only[show u 4=_ from a 4,show u 2=_ from a 2];cases f;case false=>exact bE
   refine aG ?_;go_simp;refine(CV.out _).mono ?_;rintro e a5⟨rfl,f9⟩;exact⟨rfl,f9⟩
  case' yV=>
   simp only[show u 5=_ from a 5,show u 2=_ from a 2];cases f;case false=>exact bE
  case' yW=>
   simp only[show u 2=_ from a 2,show u 6=_ from a 6];cases f
  case yX=>
   simp only[show u 7=_ from a 7];cases f<;>exact aG (by go_simp;exact⟨by rw[←aZ.out];rfl,aD⟩)
  all_goals
   try simp only[cond]
   refine aG ?_;go_simp;exact aM
 intro w' b;simp only[z1,z2,z3,z4,ay,Act.put,z5,z6,z7,z8,z9,jx,jy,Nat.reduceAdd,Nat.zero_add];have m:=af (m.out.trans b);have o:=af (o.out.fr b (fun x=>x));have n:=af (n.out.fr b (fun x=>x));clear b;have aN:Hid ((f&&!va)=E):=by
  rw[Hid,←aZ.out];cases f<;>simp
 clear aZ;cases aP:E;case true=>
  rw[aP]at aN;clear aP;go_wp2;go_ret;refine⟨_,rfl,?_,m.out⟩;rw[p.out,l.out,aN.out];simp
 rw[aP]at aN;clear aP;obtain⟨aW,aE⟩:∃z:Bool,(bif d then(!am)else false)=z:=⟨_,rfl⟩;have X:=af aE;clear aE;go_upto_region 11 with fail;refine iQ 9 [.pointer (some ⟨B,2,none⟩), .bool d, .bool d,bif d then .pointer (some ⟨C,2,none⟩)else undef,bif d then .int .i64 y else undef,bif d then .bool am else undef,bif d then .bool (!am)else undef,bif d then .bool (!am)else .bool false, .bool aW] ?zH ?_;case zH=>
  refine⟨?ZC,?yY,?yZ,?xA,?xB,?xC,?xD,?xE,?xF,trivial⟩;all_goals intro u w' b a
  all_goals simp only[z1,z2,z3,z4,ay,Act.put,z5,z6,z7,Nat.reduceAdd,Nat.zero_add]
  case yY=>
   simp only[show u 0=_ from a 0];refine aG ?_;have q:_=some (Value.bool d):=(n.out.fr b (fun x=>x)).cell 2;go_simp;exact aM
  case' yZ=>simp only[show u 1=_ from a 1]
  case' xA=>
   simp only[show u 2=_ from a 2];cases d;case false=>exact bE
  case xB=>
   simp only[show u 3=_ from a 3,show u 2=_ from a 2];cases d;case false=>exact bE
   refine aG ?_;have q:_=some (Value.int .i64 y):=(o.out.fr b (fun x=>x)).cell 2;go_simp;exact aM
  case xC=>
   simp only[show u 4=_ from a 4,show u 2=_ from a 2];cases d;case false=>exact bE
   refine aG ?_;go_simp;refine(bf.out _).mono ?_;rintro e a5⟨rfl,rfl⟩;exact aM
  case' xD=>
   simp only[show u 5=_ from a 5,show u 2=_ from a 2];cases d;case false=>exact bE
  case' xE=>
   simp only[show u 2=_ from a 2,show u 6=_ from a 6];cases d
  case xF=>
   simp only[show u 7=_ from a 7];cases d<;>exact aG (by go_simp;exact⟨by rw[←X.out];rfl,aD⟩)
  all_goals
   try simp only[cond]
   refine aG ?_;go_simp;exact aM
 intro w' b;simp only[z1,z2,z3,z4,ay,Act.put,z5,z6,z7,z8,z9,jx,jy,Nat.reduceAdd,Nat.zero_add];have m:=af (m.out.trans b);have o:=af (o.out.fr b (fun x=>x));have n:=af (n.out.fr b (fun x=>x));clear b;have J:Hid ((d&&!am)=aW):=by
  rw[Hid,←X.out];cases d<;>simp
 clear X;cases P:aW;case true=>
  rw[P]at J;clear P;go_wp2;go_ret;refine⟨_,rfl,?_,m.out⟩;rw[p.out,l.out,J.out];simp
 rw[P]at J;clear P;obtain⟨aX,aI⟩:∃z:Bool,(bif bi then(!ao)else false)=z:=⟨_,rfl⟩;have Y:=af aI;clear aI;go_upto_region 12 with fail;refine iQ 11 [.pointer (some ⟨B,3,none⟩), .bool bi, .bool bi,bif bi then .pointer (some ⟨C,3,none⟩)else undef,bif bi then .int .i64 t else undef,bif bi then .pointer (some ⟨B,5,none⟩)else undef,bif bi then .int .i64 A else undef,bif bi then .bool ao else undef,bif bi then .bool (!ao)else undef,bif bi then .bool (!ao)else .bool false, .bool aX] ?zI ?_;case zI=>
  refine⟨?ZD,?xG,?xH,?xI,?xJ,?xK,?xL,?xM,?xN,?xO,?zA,trivial⟩;all_goals intro u w' b a
  all_goals simp only[z1,z2,z3,z4,ay,Act.put,z5,z6,z7,Nat.reduceAdd,Nat.zero_add]
  case xG=>
   simp only[show u 0=_ from a 0];refine aG ?_;have q:_=some (Value.bool bi):=(n.out.fr b (fun x=>x)).cell 3;go_simp;exact aM
  case' xH=>simp only[show u 1=_ from a 1]
  case' xI=>
   simp only[show u 2=_ from a 2];cases bi;case false=>exact bE
  case xJ=>
   simp only[show u 3=_ from a 3,show u 2=_ from a 2];cases bi;case false=>exact bE
   refine aG ?_;have q:_=some (Value.int .i64 t):=(o.out.fr b (fun x=>x)).cell 3;go_simp;exact aM
  case' xK=>
   simp only[show u 2=_ from a 2];cases bi;case false=>exact bE
  case xL=>
   simp only[show u 5=_ from a 5,show u 2=_ from a 2];cases bi;case false=>exact bE
   refine aG ?_;have q:_=some (Value.int .i64 A):=(n.out.fr b (fun x=>x)).cell 5;go_simp;exact aM
  case xM=>
   simp only[show u 4=_ from a 4,show u 6=_ from a 6,show u 2=_ from a 2];cases bi;case false=>exact bE
   refine aG ?_;go_simp;refine(be.out _).mono ?_;rintro e a5⟨rfl,rfl⟩;exact aM
  case' xN=>
   simp only[show u 7=_ from a 7,show u 2=_ from a 2];cases bi;case false=>exact bE
  case' xO=>
   simp only[show u 2=_ from a 2,show u 8=_ from a 8];cases bi
  case zA=>
   simp only[show u 9=_ from a 9];cases bi<;>exact aG (by go_simp;exact⟨by rw[←Y.out];rfl,aD⟩)
  all_goals
   try simp only[cond]
   refine aG ?_;go_simp;exact aM
 intro w' b;simp only[z1,z2,z3,z4,ay,Act.put,z5,z6,z7,z8,z9,jx,jy,Nat.reduceAdd,Nat.zero_add];have m:=af (m.out.trans b);have o:=af (o.out.fr b (fun x=>x));have n:=af (n.out.fr b (fun x=>x));clear b;have K:Hid ((bi&&!ao)=aX):=by
  rw[Hid,←Y.out];cases bi<;>simp
 clear Y;cases Q:aX;case true=>
  rw[Q]at K;clear Q;go_wp2;go_ret;refine⟨_,rfl,?_,m.out⟩;rw[p.out,l.out,K.out];simp
 rw[Q]at K;clear Q;obtain⟨H,a9⟩:∃z:Bool,(bif g then(!R)else false)=z:=⟨_,rfl⟩;have a0:=af a9;clear a9;go_upto_region 14 with fail;refine iQ 9 [.pointer (some ⟨B,4,none⟩), .bool g, .bool g,bif g then .pointer (some ⟨C,4,none⟩)else undef,bif g then .string s else undef,bif g then .bool R else undef,bif g then .bool (!R)else undef,bif g then .bool (!R)else .bool false, .bool H] ?zJ ?_;case zJ=>
  refine⟨?ZE,?xP,?xQ,?xR,?xS,?xT,?xU,?xV,?xW,trivial⟩;all_goals intro u w' b a
  all_goals simp only[z1,z2,z3,z4,ay,Act.put,z5,z6,z7,Nat.reduceAdd,Nat.zero_add]
  case xP=>
   simp only[show u 0=_ from a 0];refine aG ?_;have q:_=some (Value.bool g):=(n.out.fr b (fun x=>x)).cell 4;go_simp;exact aM
  case' xQ=>simp only[show u 1=_ from a 1]
  case' xR=>
   simp only[show u 2=_ from a 2];cases g;case false=>exact bE
  case xS=>
   simp only[show u 3=_ from a 3,show u 2=_ from a 2];cases g;case false=>exact bE
   refine aG ?_;have q:_=some (Value.string s):=(o.out.fr b (fun x=>x)).cell 4;go_simp;exact aM
  case xT=>
   simp only[show u 4=_ from a 4,show u 2=_ from a 2];cases g;case false=>exact bE
   refine aG ?_;go_simp;refine(bg.out _).mono ?_;rintro e a5⟨rfl,f9⟩;exact⟨rfl,f9⟩
  case' xU=>
   simp only[show u 5=_ from a 5,show u 2=_ from a 2];cases g;case false=>exact bE
  case' xV=>
   simp only[show u 2=_ from a 2,show u 6=_ from a 6];cases g
  case xW=>
   simp only[show u 7=_ from a 7];cases g<;>exact aG (by go_simp;exact⟨by rw[←a0.out];rfl,aD⟩)
  all_goals
   try simp only[cond]
   refine aG ?_;go_simp;exact aM
 intro w' b;simp only[z1,z2,z3,z4,ay,Act.put,z5,z6,z7,z8,z9,jx,jy,Nat.reduceAdd,Nat.zero_add];have m:=af (m.out.trans b);have o:=af (o.out.fr b (fun x=>x));have n:=af (n.out.fr b (fun x=>x));clear b;have aO:Hid ((g&&!R)=H):=by
  rw[Hid,←a0.out];cases g<;>simp
 clear a0;cases aQ:H;case true=>
  rw[aQ]at aO;clear aQ;go_wp2;go_ret;refine⟨_,rfl,?_,m.out⟩;rw[p.out,l.out,aO.out];simp
 rw[aQ]at aO;clear aQ;go_wp2;go_ret;refine⟨_,rfl,?_,m.out⟩;rw[p.out,l.out,D.out,F.out,G.out,I.out,aN.out,J.out,K.out,aO.out];rfl
theorem kS(n:aK)(w:World)(o:eE w)(f:n.owner.size≤1099511627776)(g:n.text.size≤1099511627776):Calls Tryz.prog 115 #[.agg n.cells.toArray] w (Checked w n):=by
 obtain⟨a,l,j,i,m⟩:=n;simp only at f g;by_cases v:1≤a∧a≤20
 ·obtain⟨k,rfl⟩:∃k:Nat,a=(k:Int):=⟨a.toNat,by omega⟩;have d:1≤k∧k≤20:=by omega
  have A:ig.length=21:=by decide
  obtain⟨u,hu⟩:∃u,ig[k]? =some u:=⟨_,List.getElem?_eq_getElem (show k<ig.length by omega)⟩;obtain⟨wd,s,r,bi,t,x⟩:=u;exact Ap k l j i m wd s r bi t x w o d hu f g
 ·have c:(decide (1≤a)&&decide (a≤20))=false:=by
   rw[Bool.and_eq_false_iff,decide_eq_false_iff_not,decide_eq_false_iff_not];omega
  have b:Hid (dA ⟨a,l,j,i,m⟩=false):=by
   simp only[Hid,dA];rw[c];rfl
  have q:Hid (∀w,Calls Tryz.prog 152 #[.int .i64 a] w (aY w (.bool false))):=fun w=>by
   have h:=sD a w;rw[c]at h;exact h
  clear o v f g c;go_enter Tryz.func115,Tryz.ntmps115;go_wp2_with(refine aA rfl 106 (.tmp 0) rfl #[.int .i64 a, .string l, .int .i64 j, .int .i64 i, .string m] rfl ?_);intro w1 n1;have p:=af n1.fr;have y:w1.cell? ⟨w.heap.size,0,none⟩=some (.int .i64 a):=n1.aH.cell 0;clear n1;generalize w.heap.size=z at*;go_wp2_with fail;refine(q.out _).mono ?_;rintro e w'⟨rfl,rfl⟩;go_wp2;go_ret;exact⟨11,rfl,by rw[b.out];rfl,p.out⟩
theorem CL.one{w:World}{g:Nat}{t:TypeId}{c:CV}(h:aq w g t c.cells.toArray):CL w (fun _=>True) (some ⟨g,0,none⟩) 1 [c]:=by
 refine⟨⟨rfl,fun _=>⟨_,rfl,trivial,fun j y a=>?_⟩⟩,rfl⟩;rw[Addr.add_mid,Nat.zero_add,h.cell,bR];simpa using a
end Go.Proofs.YtphjagkehiklkaaGreatDoor
namespace Go.Proofs
open Go.Shelf
def Tryz.yb:Go.Shelf.Ren:=⟨fun|125=>150|128=>172|129=>173|n=>n,fun|46=>205|3=>3|51=>140|53=>187|4=>4|5=>5|9=>9|n=>n,fun|n=>n⟩
theorem Tryz.Hj:Go.Proofs.Lays.n125 Tryz.prog Tryz.yb:={
 mixed:=by kernel_rfl
 f125:=Tryz.func150.trans (congrArg some (by kernel_rfl))
 f128:=Tryz.func172.trans (congrArg some (by kernel_rfl))
 f129:=Tryz.func173.trans (congrArg some (by kernel_rfl))
 t3:=Tryz.underlying3
 a3:=Tryz.isAgg3
 z3:=Tryz.sizeOf3
 v3:=Tryz.zeroValue3
 t4:=Tryz.underlying4
 a4:=Tryz.isAgg4
 z4:=Tryz.sizeOf4
 v4:=Tryz.zeroValue4
 t5:=Tryz.underlying5
 a5:=Tryz.isAgg5
 z5:=Tryz.sizeOf5
 v5:=Tryz.zeroValue5
 t9:=Tryz.underlying9
 a9:=Tryz.isAgg9
 z9:=Tryz.sizeOf9
 v9:=Tryz.zeroValue9
 t46:=Tryz.underlying205
 a46:=Tryz.isAgg205
 z46:=Tryz.sizeOf205
 v46:=Tryz.zeroValue205
 t51:=Tryz.underlying140
 a51:=Tryz.isAgg140
 z51:=Tryz.sizeOf140
 v51:=Tryz.zeroValue140
 t53:=Tryz.underlying187
 a53:=Tryz.isAgg187
 z53:=Tryz.sizeOf187
 v53:=Tryz.zeroValue187}
theorem Tryz.bits_Len(x:Int)(w:World)(a:0≤x)(b:x≤18446744073709551615):
  Calls Tryz.prog 150 #[.int .u64 x] w fun e w'=>e= .returned (.int .i64 (Lib.bitLen x.toNat))∧w'=w:=Any.bits_Len Tryz.Hj x w a b
end Go.Proofs
