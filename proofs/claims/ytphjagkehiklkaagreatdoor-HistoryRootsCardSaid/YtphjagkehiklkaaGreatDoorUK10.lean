/- Texts. -/
import Derived.Deep.RegionHeld3
import Derived.Lib.ConvBytes
import Derived.Lib.ItoaNum
import Derived.Shelf.Small.Bits
import Derived.StillTailTactics
import Derived.Stop.LaidErr
import Derived.Test.YtphjagkehiklkaaGreatDoorUK09
set_option linter.unusedVariables false
set_option linter.unusedSimpArgs false
set_option maxRecDepth 100000
set_option maxHeartbeats 8000000
namespace Go.Proofs.YtphjagkehiklkaaGreatDoor
open Go.RowKit
theorem nL{α:Type}(l:List α)(h:l≠[]):∃i x,l=i++[x]:=by
 rcases List.eq_nil_or_concat l with rfl|⟨i,b,rfl⟩;·exact absurd rfl h
 ·exact⟨i,b,by simp⟩
def mS(ds:List UInt8):Prop:=(∀b∈ds,kH b=true)∧ds≠[]∧ds[0]? ≠some 48
theorem th{b:UInt8}(h:kH b=true):48≤b.toNat∧b.toNat≤57:=by simpa[kH]using h
theorem mS.init{i:List UInt8}{x:UInt8}(h:mS (i++[x]))(a:i≠[]):mS i:=by
 refine⟨fun b c=>h.1 b (by simp[c]),a,fun e=>h.2.2 ?_⟩;rw[List.getElem?_append_left (List.length_pos_iff.2 a)];exact e
theorem vw:∀(n:Nat)(ds:List UInt8),ds.length=n→mS ds→1≤dX ds:=by
 intro n;induction n with
 |zero=>intro ds h a;exact absurd (List.length_eq_zero_iff.1 h) a.2.1
 |succ n d=>
  intro ds h a;obtain⟨i,x,rfl⟩:=nL ds a.2.1;rw[kt];by_cases b:i=[];·subst b;have f:=th (a.1 x (by simp));have c:x≠48:=fun e=>a.2.2 (by rw[e];rfl);have g:x.toNat≠48:=fun e=>c (UInt8.toNat_inj.1 e);omega
  ·have:=d i (by simpa using h) (a.init b);omega
theorem vu:∀(n:Nat)(ds es:List UInt8),ds.length=n→mS ds→mS es→dX ds=dX es→ds=es:=by
 intro n;induction n with
 |zero=>intro ds es h g;exact absurd (List.length_eq_zero_iff.1 h) g.2.1
 |succ n k=>
  intro ds es h c he e;obtain⟨i,x,rfl⟩:=nL ds c.2.1;obtain⟨j,y,rfl⟩:=nL es he.2.1;rw[kt,kt]at e;have l:=th (c.1 x (by simp));have m:=th (he.1 y (by simp));have f:x=y:=UInt8.toNat_inj.1 (by omega);have a:dX i=dX j:=by omega
  subst f;by_cases d:i=[]
  ·by_cases b:j=[];·rw[d,b]
   ·have:=vw _ j rfl (he.init b);rw[d]at a;simp[dX]at a;simp[dX]at this;omega
  ·by_cases b:j=[];·have:=vw _ i rfl (c.init d);rw[b]at a;simp[dX]at a;simp[dX]at this;omega
   ·rw[k i j (by simpa using h) (c.init d) (he.init b) a]
theorem zO{c a:Nat}{l:List UInt8}(h:(ca c a l).1.e=0):mS (cR 7 l)∧(ca c a l).1.ord=dX (cR 7 l):=by
 simp only[ca]at h⊢;split at h;·simp at h
 ·rename_i f;rw[if_neg f];split at h;·simp at h
  ·rename_i g;rw[if_neg g];split at h;·simp at h
   ·rename_i b;rw[if_neg b];split at h;·simp at h
    ·rename_i d;rw[if_neg d];split at h;·simp at h
     ·rename_i i;rw[if_neg i];refine⟨⟨qI 7 l,b,fun e=>d ?_⟩,rfl⟩;have j:0<(cR 7 l).length:=List.length_pos_iff.2 b;rw[mD,List.getElem?_take_of_lt j]at e;exact e
theorem mB(n a:Nat)(l:List UInt8):cM n a l≠[]:=by
 cases n with
 |zero=>simp[cM]
 |succ n=>
  rw[cM];simp only;split;·simp
  ·split;·simp
   ·split<;>simp
theorem tF{n a:Nat}{l:List UInt8}(h:∀p∈cM (n+1) a l,p.e=0):
  mS (cR 7 l)∧((l=cR 7 l∧(cM (n+1) a l).map (·.ord)=[dX (cR 7 l)])∨
   ∃r,l=cR 7 l++46::r∧(cM (n+1) a l).map (·.ord)=dX (cR 7 l)::(cM n (a+(cR 7 l).length+1) r).map (·.ord)∧∀p∈cM n (a+(cR 7 l).length+1) r,p.e=0):=by
 rw[cM]at h⊢;simp only at h⊢;by_cases he:(ca (7-n) a l).1.e=0
 ·rw[if_neg (by simp[he])]at h⊢;obtain⟨i,g⟩:=zO he;refine⟨i,?_⟩;have m:=jZ 7 l;have f:=mD 7 l;by_cases b:l.length≤(cR 7 l).length;·rw[if_pos b];left;refine⟨?_,by simp[g]⟩;rw[List.take_of_length_le b]at f;exact f.symm
  ·rw[if_neg b]at h⊢;by_cases c:l[(cR 7 l).length]? =some 46;·rw[if_neg (by simp[c])]at h⊢;right;refine⟨l.drop ((cR 7 l).length+1),?_,by simp[g],fun p j=>h p (by simp[j])⟩;obtain⟨d,k⟩:=List.getElem?_eq_some_iff.1 c;conv=>lhs;rw[←List.take_append_drop (cR 7 l).length l,←f,List.drop_eq_getElem_cons d,k]
   ·rw[if_pos c]at h;have:=h ⟨0,a+(cR 7 l).length,6⟩ (by simp);simp at this
 ·rw[if_pos he]at h;exact absurd (h _ (by simp)) he
theorem rF:∀(n a b:Nat)(l m:List UInt8),(∀p∈cM n a l,p.e=0)→(∀p∈cM n b m,p.e=0)→(cM n a l).map (·.ord)=(cM n b m).map (·.ord)→l=m
 |0,a,b,l,m,h,_,_=>by
  have:=h ⟨0,a,9⟩ (by simp[cM]);simp at this
 |n+1,a,b,l,m,h,k,e=>by
  obtain⟨g1,o⟩:=tF h;obtain⟨g2,i⟩:=tF k;rcases o with⟨g,f⟩|⟨r,g,f,q⟩
  ·rcases i with⟨d,c⟩|⟨s,d,c,j⟩;·rw[f,c]at e;rw[g,d];exact vu _ _ _ rfl g1 g2 (by simpa using e)
   ·rw[f,c]at e;simp only[List.cons.injEq]at e;exact absurd (List.map_eq_nil_iff.1 e.2.symm) (mB _ _ _)
  ·rcases i with⟨d,c⟩|⟨s,d,c,j⟩;·rw[f,c]at e;simp only[List.cons.injEq]at e;exact absurd (List.map_eq_nil_iff.1 e.2) (mB _ _ _)
   ·rw[f,c]at e;simp only[List.cons.injEq]at e;rw[g,d,vu _ _ _ rfl g1 g2 e.1,rF n _ _ r s q j e.2]
theorem Ap{a b:ByteArray}(c:cC a=true)(d:cC b=true)(h:im a=im b):a=b:=by
 apply toList_inj;unfold cC at c d;rw[List.all_eq_true]at c d;simp only[beq_iff_eq]at c d;unfold im at h;have hm:(eS a).map (·.ord)=(eS b).map (·.ord):=by
  have g:=congrArg (List.map Int.toNat) h;simpa[List.map_map,Function.comp_def]using g
 unfold eS at c d hm;by_cases f:a.size=0
 ·by_cases e:b.size=0;·rw[show a.toList=[]from List.length_eq_zero_iff.1 (by rw[ec];exact f),show b.toList=[]from List.length_eq_zero_iff.1 (by rw[ec];exact e)]
  ·rw[if_pos f,if_neg e]at hm;exact absurd (List.map_eq_nil_iff.1 hm.symm) (mB _ _ _)
 ·by_cases e:b.size=0;·rw[if_neg f,if_pos e]at hm;exact absurd (List.map_eq_nil_iff.1 hm) (mB _ _ _)
  ·rw[if_neg f]at c hm;rw[if_neg e]at d hm;exact rF 8 0 0 _ _ c d hm
def pV(a:ByteArray):(Int×List Int)×ByteArray:=if cC a=true then((0,im a),ByteArray.empty)else((1,[]),a)
theorem Ds(a b:ByteArray)(h:pV a=pV b):a=b:=by
 unfold pV at h;split at h
 ·rename_i c;split at h;·rename_i d;simp only[Prod.mk.injEq,true_and,and_true]at h;exact Ap c d h
  ·simp at h
 ·split at h;·simp at h
  ·simpa using h
def Bp(x y:(Int×List Int)×ByteArray):Int:=aN (aN (df x.1.1 y.1.1) (cmpL df x.1.2 y.1.2)) (kh x.2 y.2)
theorem xS:gz Bp:=((dW.lex (ng dW)).lex sM)
theorem Cz(a b:ByteArray):jP a b=Bp (pV a) (pV b):=by
 unfold jP;by_cases e:a=b;·subst e;rw[if_pos rfl,xS.refl]
 ·rw[if_neg e];unfold pV Bp;by_cases d:cC a=true
  ·rw[if_pos d,if_pos d];by_cases c:cC b=true
   ·rw[if_pos c,if_pos c];simp only[dW.refl,aN,if_true,sM.refl];split;·assumption
    ·rfl
   ·rw[if_neg c,if_neg c];rfl
  ·rw[if_neg d,if_neg d];by_cases c:cC b=true;·rw[if_pos c,if_pos c];rfl
   ·rw[if_neg c,if_neg c];simp only[dW.refl,aN,if_true,(ng dW).refl]
theorem xT:gz jP:=by
 have h:=xS.pull pV Ds;have e:jP=fun a b=>Bp (pV a) (pV b):=by funext a b;exact Cz a b
 rw[e];exact h
def Fk(n:aD):Int×ByteArray×Int×Int×ByteArray:=(n.kind,n.owner,n.number,n.index,n.text)
theorem cq:gz cp:=by
 have h:=(dW.lex (xT.lex (dW.lex (dW.lex sM)))).pull Fk (fun a b e=>by
  cases a;cases b;simpa[Fk]using e);exact h
end Go.Proofs.YtphjagkehiklkaaGreatDoor
namespace Go.Proofs.YtphjagkehiklkaaGreatDoor
open Go.RowKit Go.Shelf
theorem eo(a m:Int)(w:World):Calls Tryz.prog 153 #[.int .i64 a, .int .i64 m] w (bj w (.bool (decide (0≤a)&&decide (a≤m)))):=by
 by_cases b:0≤a;·have t1:decide (0≤a)=true:=decide_eq_true b;rw[t1];go_enter Tryz.func153,Tryz.ntmps153;go_wp2;go_ret;exact⟨by simp,rfl⟩
 ·have t1:decide (0≤a)=false:=decide_eq_false b;rw[t1];go_enter Tryz.func153,Tryz.ntmps153;go_wp2;go_ret;exact⟨rfl,rfl⟩
theorem ry(a:Int)(w:World):Calls Tryz.prog 152 #[.int .i64 a] w (bj w (.bool (decide (1≤a)&&decide (a≤20)))):=by
 by_cases b:1≤a;·have t1:decide (1≤a)=true:=decide_eq_true b;rw[t1];go_enter Tryz.func152,Tryz.ntmps152;go_wp2;go_ret;exact⟨by simp,rfl⟩
 ·have t1:decide (1≤a)=false:=decide_eq_false b;rw[t1];go_enter Tryz.func152,Tryz.ntmps152;go_wp2;go_ret;exact⟨rfl,rfl⟩
def mI(b:UInt8):Bool:=decide (33≤b.toNat)&&decide (b.toNat≤126)&&!(b.toNat==47)
def jK(s:ByteArray):Bool:=!s.toList.isEmpty&&decide (s.size≤32)&&s.toList.all mI
theorem Cl(s:ByteArray)(w:World)(H:s.size≤1099511627776):Calls Tryz.prog 154 #[.string s] w (bj w (.bool (jK s))):=by
 cases he:s.toList.isEmpty
 ·by_cases f:s.size≤32
  ·have t1:decide (32<(s.size:Int))=false:=decide_eq_false (by omega);have D:=Lib.hid he;have E:=Lib.hid f;obtain⟨I,m⟩:∃I,I=jK s:=⟨_,rfl⟩;rw[←m];have d:Hid (I=s.toList.all mI):=by simp only[Hid];rw[m,jK,he,decide_eq_true f];rfl
   have l:Hid (∀i,i<s.size→∃b,∃h:i<s.size,s.toList[i]? =some b∧s[i]=b):=fun i z=>by
    have e:s.toList[i]? =some (s.toList[i]'(by rw[ec];exact z)):=List.getElem?_eq_getElem _;obtain⟨t,u⟩:=xl e;exact⟨_,t,e,u⟩
   clear f m;go_enter Tryz.func154,Tryz.ntmps154;go_wp2;go_loopw[13](fun i wr=>∃k:Nat,k≤s.size∧(∀b∈s.toList.take k,mI b=true)∧i= .int .i64 k∧w=wr)(fun i _=>s.size-(intOf i).toNat);case atStart=>exact⟨0,by omega,by simp,rfl,rfl⟩
   case round=>
    obtain⟨k,G,c,rfl,rfl⟩:=hrel;have r:=Lib.hid c;clear c;by_cases n:k<s.size
    ·have v:(k:Int)<(s.size:Int):=by omega
     have y:(0:Int)≤(k:Int):=by omega
     obtain⟨b,F,e,t⟩:=l.out k n;have q:=Lib.hid e;clear e;have g:∀h:mI b=false,I=false:=fun h=>by
      rw[d.out,List.all_eq_false];exact⟨b,List.mem_of_getElem? q.out,by rw[h];simp⟩
     have a:=Lib.hid g;clear g;by_cases g1:33≤b.toNat
     ·have A:decide ((b.toNat:Int)<33)=false:=decide_eq_false (by omega);have o:¬(b.toNat:Int)<33:=by omega
      by_cases g2:b.toNat≤126
      ·have B:decide ((126:Int)<(b.toNat:Int))=false:=decide_eq_false (by omega);have p:¬(126:Int)<(b.toNat:Int):=by omega
       by_cases g3:b.toNat=47
       ·have C:((b.toNat:Int)==47)=true:=by rw[beq_iff_eq];omega
        obtain rfl:I=false:=a.out (by simp[mI,g3]);clear g1 g2 g3;go_wp2;go_ret;exact⟨rfl,rfl⟩
       ·have C:((b.toNat:Int)==47)=false:=by rw[beq_eq_false_iff_ne];omega
        have HB:Hid (mI b=true):=by simp[Hid,mI,g1,g2,g3]
        clear g1 g2 g3 a;go_wp2;go_roundw
        case rel=>exact⟨k+1,by omega,fun x j=>by
          rw[List.take_add_one,q.out,Option.toList_some,List.mem_append,List.mem_singleton]at j;rcases j with j|rfl;·exact r.out x j
          ·exact HB.out,by go_num,trivial⟩
        case measure=>simp[intOf];omega
      ·have B:decide ((126:Int)<(b.toNat:Int))=true:=decide_eq_true (by omega);have p:(126:Int)<(b.toNat:Int):=by omega
       obtain rfl:I=false:=a.out (by simp[mI,g2]);clear g1 g2;go_wp2;go_ret;exact⟨rfl,rfl⟩
     ·have A:decide ((b.toNat:Int)<33)=true:=decide_eq_true (by omega);have o:(b.toNat:Int)<33:=by omega
      obtain rfl:I=false:=a.out (by simp[mI,g1]);clear g1;go_wp2;go_ret;exact⟨rfl,rfl⟩
    ·obtain rfl:k=s.size:=by omega
     have v:¬(s.size:Int)<(s.size:Int):=by omega
     obtain rfl:I=true:=by
      rw[d.out,List.all_eq_true];have h:=r.out;rw[List.take_of_length_le (by rw[ec];omega)]at h;exact h
     go_wp2;go_ret;exact⟨rfl,rfl⟩
  ·have t1:decide (32<(s.size:Int))=true:=decide_eq_true (by omega);have d:Hid (jK s=false):=by simp[Hid,jK,f]
   rw[d.out];clear f;go_enter Tryz.func154,Tryz.ntmps154;go_wp2;go_ret;exact⟨rfl,rfl⟩
 ·have d:Hid (jK s=false):=by simp[Hid,jK,he]
  rw[d.out];go_enter Tryz.func154,Tryz.ntmps154;go_wp2;go_ret;exact⟨rfl,rfl⟩
def oI(u:fM)(n:aD):Bool:=(u.owner||n.owner.toList.isEmpty)&&(u.number||n.number==0)&&(u.index||n.index==0)&&(u.text||n.text.toList.isEmpty)&&(!u.owner||cC n.owner)&&
 (!u.number||(decide (0≤n.number)&&decide (n.number≤1073741824)))&&(!u.index||(decide (0≤n.index)&&decide (n.index≤u.aJ)))&&(!u.text||jK n.text)
def cU(n:aD):Bool:=decide (1≤n.kind)&&decide (n.kind≤20)&&(match fQ[n.kind.toNat]? with|some u=>oI u n|none=>false)
def Checked(w:World)(n:aD)(e:Ending)(w':World):Prop:=∃k:Int,e= .returned (.int .i64 k)∧(k==0)=cU n∧Fr af w w'
theorem fM.one(u:fM):u.cells.toArray.all (·.oneCell')=true:=by simp[fM.cells,Value.oneCell']
theorem xb(wd:ByteArray)(f e bi g:Bool)(h k:Int)(c d:ByteArray)(b a:Int):
  oI ⟨wd,f,e,bi,g,h⟩ ⟨k,c,b,a,d⟩=!((!f&&!c.toList.isEmpty)||(!e&&b !=0)||(!bi&&a !=0)||(!g&&!d.toList.isEmpty)||(f&&!cC c)||(e&&!(decide (0≤b)&&decide (b≤1073741824)))||(bi&&!(decide (0≤a)&&decide (a≤h)))||(g&&!jK d)):=by
 unfold oI;simp only[bne];generalize(decide (0≤b)&&decide (b≤1073741824))=i;generalize(decide (0≤a)&&decide (a≤h))=j;generalize(b==0)=d1;generalize(a==0)=d2;generalize cC c=v;generalize jK d=x;generalize c.toList.isEmpty=l;generalize d.toList.isEmpty=m;cases f<;>cases e<;>cases bi<;>cases g<;>simp[Bool.and_assoc]
theorem y8(k:Nat)(r:ByteArray)(y t:Int)(s wd:ByteArray)(f d bi g:Bool)(A:Int)(w:World)(a7:dy w)(bm:1≤k∧k≤20)(hu:fQ[k]? =some ⟨wd,f,d,bi,g,A⟩)(a8:r.size≤1099511627776)(a9:s.size≤1099511627776):
  Calls Tryz.prog 115 #[.agg #[.int .i64 (k:Int), .string r, .int .i64 y, .int .i64 t, .string s]] w (Checked w ⟨(k:Int),r,y,t,s⟩):=by
 have p:Hid (cU ⟨(k:Int),r,y,t,s⟩=oI ⟨wd,f,d,bi,g,A⟩ ⟨(k:Int),r,y,t,s⟩):=by
  simp only[Hid,cU,Int.toNat_natCast,hu];rw[decide_eq_true (show(1:Int)≤(k:Int)by omega),decide_eq_true (show(k:Int)≤20 by omega)];rfl
 have l:=Lib.hid (xb wd f d bi g A k r s y t);obtain⟨aJ,ad⟩:∃aJ,aJ=fM.cells ⟨wd,f,d,bi,g,A⟩:=⟨_,rfl⟩;have a1:Hid (∀j v,(fM.cells ⟨wd,f,d,bi,g,A⟩)[j]? =some v→w.cell? ⟨0,k*6+j,none⟩=some v):=a7.row k _ hu;have aY:Hid ((Tryz.prog.info? 189).map (·.size)=some (fM.cells ⟨wd,f,d,bi,g,A⟩).length):=jc;have ab:Hid ((Tryz.prog.info? 189).map (·.size)=some (fM.cells ⟨wd,f,d,bi,g,A⟩).toArray.size):=jc;have a0:=Lib.hid (fM.one ⟨wd,f,d,bi,g,A⟩);have aa:=Lib.hid ad;rw[←ad]at a1 aY ab a0;have a3:Hid (∀w,Calls Tryz.prog 152 #[.int .i64 (k:Int)] w (bj w (.bool true))):=fun w=>by
  have h:=ry (k:Int) w;rw[decide_eq_true (show(1:Int)≤(k:Int)by omega),decide_eq_true (show(k:Int)≤20 by omega)]at h;exact h
 obtain⟨va,al⟩:∃va,cC r=va:=⟨_,rfl⟩;obtain⟨R,am⟩:∃R,jK s=R:=⟨_,rfl⟩;obtain⟨ap,ae⟩:∃c,(decide (0≤y)&&decide (y≤1073741824))=c:=⟨_,rfl⟩;obtain⟨aq,ag⟩:∃c,(decide (0≤t)&&decide (t≤A))=c:=⟨_,rfl⟩;have CV:Hid (∀w,Calls Tryz.prog 151 #[.string r] w (aH w (.bool va))):=fun w=>by rw[←al];exact lZ r w a8
 have be:Hid (∀w,Calls Tryz.prog 154 #[.string s] w (aH w (.bool R))):=fun w=>by rw[←am];exact(Cl s w a9).mono (fun _ _ h=>⟨h.1,by rw[h.2];exact Fr.refl _ _⟩)
 have bd:Hid (∀w,Calls Tryz.prog 153 #[.int .i64 y, .int .i64 1073741824] w (bj w (.bool ap))):=fun w=>by rw[←ae];exact eo y 1073741824 w
 have bc:Hid (∀w,Calls Tryz.prog 153 #[.int .i64 t, .int .i64 A] w (bj w (.bool aq))):=fun w=>by rw[←ag];exact eo t A w
 obtain⟨ar,bg⟩:∃ar:Bool,r.toList.isEmpty=!ar:=⟨!r.toList.isEmpty,by simp⟩;obtain⟨ax,bl⟩:∃ax:Bool,s.toList.isEmpty=!ax:=⟨!s.toList.isEmpty,by simp⟩;obtain⟨av,bh⟩:∃av:Bool,(y !=0)=av:=⟨_,rfl⟩;obtain⟨x3,bk⟩:∃x3:Bool,(t !=0)=x3:=⟨_,rfl⟩;rw[bg,bh,bk,bl,al,am,ae,ag,Bool.not_not,Bool.not_not]at l;have bq:(k:Int)<21:=by omega
 have br:k<21:=by omega
 have bs:(0:Int)≤(k:Int):=by omega
 clear a7 bm hu a8 a9 ad al am ae ag;go_enter Tryz.func115,Tryz.ntmps115;go_wp2_with(refine au rfl 106 (.tmp 0) rfl #[.int .i64 (k:Int), .string r, .int .i64 y, .int .i64 t, .string s] rfl ?_);intro w1 n1;have aT:=Lib.hid n1.fr;have ay:=Lib.hid n1.az;clear n1;generalize w.heap.size=C at*;have ac:Hid (ak w1 C 106 #[.int .i64 (k:Int), .string r, .int .i64 y, .int .i64 t, .string s]):=ay.out;clear ay;have bf:w1.cell? ⟨C,0,none⟩=some (.int .i64 (k:Int)):=ac.out.cell 0;go_wp2_with fail;refine(a3.out _).mono ?_;rintro e w'⟨rfl,rfl⟩;go_wp2_with(refine aw rfl 189 (.tmp 10) rfl ⟨0,k*6,none⟩ rfl aJ _ ?zB Tryz.underlying189 rfl aY.out (aR.go ?hold));case zB=>exact fun j x bn=>by rw[Addr.add_mid];exact aT.out.aj (a1.out j x bn) (fun x=>x)
 unfold aR;go_wp2_with(refine ai rfl 189 rfl BM ud #[.string ByteArray.empty, .bool false, .bool false, .bool false, .bool false, .int .i64 0] rfl ?_);intro w2 ba;have aZ:=Lib.hid ba;clear ba;generalize aI:w1.heap.size=B at*;have Z:=Lib.hid aI;clear aI;have a4:Hid (ak w2 B 189 #[.string ByteArray.empty, .bool false, .bool false, .bool false, .bool false, .int .i64 0]):=by have h:=aZ.out.az;rw[Z.out]at h;exact h
 go_wp2_with(refine ah rfl 189 (.tmp 3) _ rfl B aJ.toArray rfl rfl _ _ a4.out ab.out (by rw[aa.out];rfl) a0.out ?_);intro bb b3 f3;have n:Hid (ak bb B 189 #[.string wd, .bool f, .bool d, .bool bi, .bool g, .int .i64 A]):=by have h:=b3;rw[aa.out]at h;exact h
 have S:Hid (Fr af w1 bb):=aZ.out.fr.ao f3 (fun i bp e=>by have bo:i=B:=e;have:=Z.out;omega);have m:=Lib.hid (aT.out.trans S.out);have o:=Lib.hid (ac.out.fr S.out (fun x=>x));clear b3 f3 aZ a4 S aT ac bf Z a1 aY ab a0 aa a3;obtain⟨aO,aA⟩:∃z:Bool,(bif f then false else ar)=z:=⟨_,rfl⟩;have T:=Lib.hid aA;clear aA;go_upto_region 4 with fail;refine jk 9 [.pointer (some ⟨B,1,none⟩), .bool f, .bool (!f), .bool (!f),bif f then undef else .pointer (some ⟨C,1,none⟩),bif f then undef else .string r,bif f then undef else .bool ar,bif f then .bool false else .bool ar, .bool aO] ?zC ?_;case zC=>
  refine⟨?xX,?zK,?zL,?zM,?zN,?zO,?zP,?zQ,?zR,trivial⟩;all_goals intro u w' b a
  all_goals simp only[z1,z2,z3,z4,an,Act.put,z5,z6,z7,Nat.reduceAdd,Nat.zero_add]
  case zK=>
   simp only[show u 0=_ from a 0];refine aB ?_;have q:_=some (Value.bool f):=(n.out.fr b (fun x=>x)).cell 1;go_simp;exact⟨rfl,Fr.refl _ _⟩
  case' zL=>simp only[show u 1=_ from a 1]
  case' zM=>simp only[show u 2=_ from a 2]
  case' zN=>
   simp only[show u 3=_ from a 3];cases f;case true=>exact bB
  case zO=>
   simp only[show u 4=_ from a 4,show u 3=_ from a 3];cases f;case true=>exact bB
   refine aB ?_;have q:_=some (Value.string r):=(o.out.fr b (fun x=>x)).cell 1;go_simp;exact⟨rfl,Fr.refl _ _⟩
  case' zP=>
   simp only[show u 5=_ from a 5,show u 3=_ from a 3];cases f;case true=>exact bB
  case' zQ=>
   simp only[show u 3=_ from a 3,show u 6=_ from a 6];cases f
  case zR=>
   simp only[show u 7=_ from a 7];cases f<;>exact aB (by go_simp;exact⟨by rw[←T.out];rfl,Fr.refl _ _⟩)
  all_goals
   try simp only[cond]
   refine aB ?_;go_simp;exact⟨rfl,Fr.refl _ _⟩
 intro w' b;simp only[z1,z2,z3,z4,an,Act.put,z5,z6,z7,z8,z9,jl,jm,Nat.reduceAdd,Nat.zero_add];have m:=Lib.hid (m.out.trans b);have o:=Lib.hid (o.out.fr b (fun x=>x));have n:=Lib.hid (n.out.fr b (fun x=>x));clear b;have D:Hid ((!f&&ar)=aO):=by
  rw[Hid,←T.out];cases f<;>simp
 clear T;cases L:aO;case true=>
  rw[L]at D;clear L;go_wp2;go_ret;refine⟨_,rfl,?_,m.out⟩;rw[p.out,l.out,D.out];simp
 rw[L]at D;clear L;obtain⟨aP,aC⟩:∃z:Bool,(bif d then false else av)=z:=⟨_,rfl⟩;have U:=Lib.hid aC;clear aC;go_upto_region 5 with fail;refine jk 9 [.pointer (some ⟨B,2,none⟩), .bool d, .bool (!d), .bool (!d),bif d then undef else .pointer (some ⟨C,2,none⟩),bif d then undef else .int .i64 y,bif d then undef else .bool av,bif d then .bool false else .bool av, .bool aP] ?zD ?_;case zD=>
  refine⟨?xY,?zS,?zT,?zU,?zV,?zW,?zX,?zY,?zZ,trivial⟩;all_goals intro u w' b a
  all_goals simp only[z1,z2,z3,z4,an,Act.put,z5,z6,z7,Nat.reduceAdd,Nat.zero_add]
  case zS=>
   simp only[show u 0=_ from a 0];refine aB ?_;have q:_=some (Value.bool d):=(n.out.fr b (fun x=>x)).cell 2;go_simp;exact⟨rfl,Fr.refl _ _⟩
  case' zT=>simp only[show u 1=_ from a 1]
  case' zU=>simp only[show u 2=_ from a 2]
  case' zV=>
   simp only[show u 3=_ from a 3];cases d;case true=>exact bB
  case zW=>
   simp only[show u 4=_ from a 4,show u 3=_ from a 3];cases d;case true=>exact bB
   refine aB ?_;have q:_=some (Value.int .i64 y):=(o.out.fr b (fun x=>x)).cell 2;go_simp;exact⟨rfl,Fr.refl _ _⟩
  case' zX=>
   simp only[show u 5=_ from a 5,show u 3=_ from a 3];cases d;case true=>exact bB
  case' zY=>
   simp only[show u 3=_ from a 3,show u 6=_ from a 6];cases d
  case zZ=>
   simp only[show u 7=_ from a 7];cases d<;>exact aB (by go_simp;exact⟨by rw[←U.out];rfl,Fr.refl _ _⟩)
  all_goals
   try simp only[cond]
   refine aB ?_;go_simp;exact⟨rfl,Fr.refl _ _⟩
 intro w' b;simp only[z1,z2,z3,z4,an,Act.put,z5,z6,z7,z8,z9,jl,jm,Nat.reduceAdd,Nat.zero_add];have m:=Lib.hid (m.out.trans b);have o:=Lib.hid (o.out.fr b (fun x=>x));have n:=Lib.hid (n.out.fr b (fun x=>x));clear b;have F:Hid ((!d&&av)=aP):=by
  rw[Hid,←U.out];cases d<;>simp
 clear U;cases M:aP;case true=>
  rw[M]at F;clear M;go_wp2;go_ret;refine⟨_,rfl,?_,m.out⟩;rw[p.out,l.out,F.out];simp
 rw[M]at F;clear M;obtain⟨aQ,aD⟩:∃z:Bool,(bif bi then false else x3)=z:=⟨_,rfl⟩;have V:=Lib.hid aD;clear aD;go_upto_region 6 with fail;refine jk 9 [.pointer (some ⟨B,3,none⟩), .bool bi, .bool (!bi), .bool (!bi),bif bi then undef else .pointer (some ⟨C,3,none⟩),bif bi then undef else .int .i64 t,bif bi then undef else .bool x3,bif bi then .bool false else .bool x3, .bool aQ] ?zE ?_;case zE=>
  refine⟨?xZ,?yA,?yB,?yC,?yD,?yE,?yF,?yG,?yH,trivial⟩;all_goals intro u w' b a
  all_goals simp only[z1,z2,z3,z4,an,Act.put,z5,z6,z7,Nat.reduceAdd,Nat.zero_add]
  case yA=>
   simp only[show u 0=_ from a 0];refine aB ?_;have q:_=some (Value.bool bi):=(n.out.fr b (fun x=>x)).cell 3;go_simp;exact⟨rfl,Fr.refl _ _⟩
  case' yB=>simp only[show u 1=_ from a 1]
  case' yC=>simp only[show u 2=_ from a 2]
  case' yD=>
   simp only[show u 3=_ from a 3];cases bi;case true=>exact bB
  case yE=>
   simp only[show u 4=_ from a 4,show u 3=_ from a 3];cases bi;case true=>exact bB
   refine aB ?_;have q:_=some (Value.int .i64 t):=(o.out.fr b (fun x=>x)).cell 3;go_simp;exact⟨rfl,Fr.refl _ _⟩
  case' yF=>
   simp only[show u 5=_ from a 5,show u 3=_ from a 3];cases bi;case true=>exact bB
  case' yG=>
   simp only[show u 3=_ from a 3,show u 6=_ from a 6];cases bi
  case yH=>
   simp only[show u 7=_ from a 7];cases bi<;>exact aB (by go_simp;exact⟨by rw[←V.out];rfl,Fr.refl _ _⟩)
  all_goals
   try simp only[cond]
   refine aB ?_;go_simp;exact⟨rfl,Fr.refl _ _⟩
 intro w' b;simp only[z1,z2,z3,z4,an,Act.put,z5,z6,z7,z8,z9,jl,jm,Nat.reduceAdd,Nat.zero_add];have m:=Lib.hid (m.out.trans b);have o:=Lib.hid (o.out.fr b (fun x=>x));have n:=Lib.hid (n.out.fr b (fun x=>x));clear b;have G:Hid ((!bi&&x3)=aQ):=by
  rw[Hid,←V.out];cases bi<;>simp
 clear V;cases N:aQ;case true=>
  rw[N]at G;clear N;go_wp2;go_ret;refine⟨_,rfl,?_,m.out⟩;rw[p.out,l.out,G.out];simp
 rw[N]at G;clear N;obtain⟨aS,aE⟩:∃z:Bool,(bif g then false else ax)=z:=⟨_,rfl⟩;have W:=Lib.hid aE;clear aE;go_upto_region 7 with fail;refine jk 9 [.pointer (some ⟨B,4,none⟩), .bool g, .bool (!g), .bool (!g),bif g then undef else .pointer (some ⟨C,4,none⟩),bif g then undef else .string s,bif g then undef else .bool ax,bif g then .bool false else .bool ax, .bool aS] ?zF ?_;case zF=>
  refine⟨?ZA,?yI,?yJ,?yK,?yL,?yM,?yN,?yO,?yP,trivial⟩;all_goals intro u w' b a
  all_goals simp only[z1,z2,z3,z4,an,Act.put,z5,z6,z7,Nat.reduceAdd,Nat.zero_add]
  case yI=>
   simp only[show u 0=_ from a 0];refine aB ?_;have q:_=some (Value.bool g):=(n.out.fr b (fun x=>x)).cell 4;go_simp;exact⟨rfl,Fr.refl _ _⟩
  case' yJ=>simp only[show u 1=_ from a 1]
  case' yK=>simp only[show u 2=_ from a 2]
  case' yL=>
   simp only[show u 3=_ from a 3];cases g;case true=>exact bB
  case yM=>
   simp only[show u 4=_ from a 4,show u 3=_ from a 3];cases g;case true=>exact bB
   refine aB ?_;have q:_=some (Value.string s):=(o.out.fr b (fun x=>x)).cell 4;go_simp;exact⟨rfl,Fr.refl _ _⟩
  case' yN=>
   simp only[show u 5=_ from a 5,show u 3=_ from a 3];cases g;case true=>exact bB
  case' yO=>
   simp only[show u 3=_ from a 3,show u 6=_ from a 6];cases g
  case yP=>
   simp only[show u 7=_ from a 7];cases g<;>exact aB (by go_simp;exact⟨by rw[←W.out];rfl,Fr.refl _ _⟩)
  all_goals
   try simp only[cond]
   refine aB ?_;go_simp;exact⟨rfl,Fr.refl _ _⟩
 intro w' b;simp only[z1,z2,z3,z4,an,Act.put,z5,z6,z7,z8,z9,jl,jm,Nat.reduceAdd,Nat.zero_add];have m:=Lib.hid (m.out.trans b);have o:=Lib.hid (o.out.fr b (fun x=>x));have n:=Lib.hid (n.out.fr b (fun x=>x));clear b;have I:Hid ((!g&&ax)=aS):=by
  rw[Hid,←W.out];cases g<;>simp
 clear W;cases O:aS;case true=>
  rw[O]at I;clear O;go_wp2;go_ret;refine⟨_,rfl,?_,m.out⟩;rw[p.out,l.out,I.out];simp
 rw[O]at I;clear O;obtain⟨E,a5⟩:∃z:Bool,(bif f then(!va)else false)=z:=⟨_,rfl⟩;have aW:=Lib.hid a5;clear a5;go_upto_region 9 with fail;refine jk 9 [.pointer (some ⟨B,1,none⟩), .bool f, .bool f,bif f then .pointer (some ⟨C,1,none⟩)else undef,bif f then .string r else undef,bif f then .bool va else undef,bif f then .bool (!va)else undef,bif f then .bool (!va)else .bool false, .bool E] ?zG ?_;case zG=>
  refine⟨?ZB,?yQ,?yR,?yS,?yT,?yU,?yV,?yW,?yX,trivial⟩;all_goals intro u w' b a
  all_goals simp only[z1,z2,z3,z4,an,Act.put,z5,z6,z7,Nat.reduceAdd,Nat.zero_add]
  case yQ=>
   simp only[show u 0=_ from a 0];refine aB ?_;have q:_=some (Value.bool f):=(n.out.fr b (fun x=>x)).cell 1;go_simp;exact⟨rfl,Fr.refl _ _⟩
  case' yR=>simp only[show u 1=_ from a 1]
  case' yS=>
   simp only[show u 2=_ from a 2];cases f;case false=>exact bB
  case yT=>
   simp only[show u 3=_ from a 3,show u 2=_ from a 2];cases f;case false=>exact bB
   refine aB ?_;have q:_=some (Value.string r):=(o.out.fr b (fun x=>x)).cell 1;go_simp;exact⟨rfl,Fr.refl _ _⟩
  case yU=>
   simp only[show u 4=_ from a 4,show u 2=_ from a 2];cases f;case false=>exact bB
   refine aB ?_;go_simp;refine(CV.out _).mono ?_;rintro e a2⟨rfl,f9⟩;exact⟨rfl,f9⟩
  case' yV=>
   simp only[show u 5=_ from a 5,show u 2=_ from a 2];cases f;case false=>exact bB
  case' yW=>
   simp only[show u 2=_ from a 2,show u 6=_ from a 6];cases f
  case yX=>
   simp only[show u 7=_ from a 7];cases f<;>exact aB (by go_simp;exact⟨by rw[←aW.out];rfl,Fr.refl _ _⟩)
  all_goals
   try simp only[cond]
   refine aB ?_;go_simp;exact⟨rfl,Fr.refl _ _⟩
 intro w' b;simp only[z1,z2,z3,z4,an,Act.put,z5,z6,z7,z8,z9,jl,jm,Nat.reduceAdd,Nat.zero_add];have m:=Lib.hid (m.out.trans b);have o:=Lib.hid (o.out.fr b (fun x=>x));have n:=Lib.hid (n.out.fr b (fun x=>x));clear b;have aK:Hid ((f&&!va)=E):=by
  rw[Hid,←aW.out];cases f<;>simp
 clear aW;cases aM:E;case true=>
  rw[aM]at aK;clear aM;go_wp2;go_ret;refine⟨_,rfl,?_,m.out⟩;rw[p.out,l.out,aK.out];simp
 rw[aM]at aK;clear aM;obtain⟨aU,aF⟩:∃z:Bool,(bif d then(!ap)else false)=z:=⟨_,rfl⟩;have X:=Lib.hid aF;clear aF;go_upto_region 11 with fail;refine jk 9 [.pointer (some ⟨B,2,none⟩), .bool d, .bool d,bif d then .pointer (some ⟨C,2,none⟩)else undef,bif d then .int .i64 y else undef,bif d then .bool ap else undef,bif d then .bool (!ap)else undef,bif d then .bool (!ap)else .bool false, .bool aU] ?zH ?_;case zH=>
  refine⟨?ZC,?yY,?yZ,?xA,?xB,?xC,?xD,?xE,?xF,trivial⟩;all_goals intro u w' b a
  all_goals simp only[z1,z2,z3,z4,an,Act.put,z5,z6,z7,Nat.reduceAdd,Nat.zero_add]
  case yY=>
   simp only[show u 0=_ from a 0];refine aB ?_;have q:_=some (Value.bool d):=(n.out.fr b (fun x=>x)).cell 2;go_simp;exact⟨rfl,Fr.refl _ _⟩
  case' yZ=>simp only[show u 1=_ from a 1]
  case' xA=>
   simp only[show u 2=_ from a 2];cases d;case false=>exact bB
  case xB=>
   simp only[show u 3=_ from a 3,show u 2=_ from a 2];cases d;case false=>exact bB
   refine aB ?_;have q:_=some (Value.int .i64 y):=(o.out.fr b (fun x=>x)).cell 2;go_simp;exact⟨rfl,Fr.refl _ _⟩
  case xC=>
   simp only[show u 4=_ from a 4,show u 2=_ from a 2];cases d;case false=>exact bB
   refine aB ?_;go_simp;refine(bd.out _).mono ?_;rintro e a2⟨rfl,rfl⟩;exact⟨rfl,Fr.refl _ _⟩
  case' xD=>
   simp only[show u 5=_ from a 5,show u 2=_ from a 2];cases d;case false=>exact bB
  case' xE=>
   simp only[show u 2=_ from a 2,show u 6=_ from a 6];cases d
  case xF=>
   simp only[show u 7=_ from a 7];cases d<;>exact aB (by go_simp;exact⟨by rw[←X.out];rfl,Fr.refl _ _⟩)
  all_goals
   try simp only[cond]
   refine aB ?_;go_simp;exact⟨rfl,Fr.refl _ _⟩
 intro w' b;simp only[z1,z2,z3,z4,an,Act.put,z5,z6,z7,z8,z9,jl,jm,Nat.reduceAdd,Nat.zero_add];have m:=Lib.hid (m.out.trans b);have o:=Lib.hid (o.out.fr b (fun x=>x));have n:=Lib.hid (n.out.fr b (fun x=>x));clear b;have J:Hid ((d&&!ap)=aU):=by
  rw[Hid,←X.out];cases d<;>simp
 clear X;cases P:aU;case true=>
  rw[P]at J;clear P;go_wp2;go_ret;refine⟨_,rfl,?_,m.out⟩;rw[p.out,l.out,J.out];simp
 rw[P]at J;clear P;obtain⟨aV,aG⟩:∃z:Bool,(bif bi then(!aq)else false)=z:=⟨_,rfl⟩;have Y:=Lib.hid aG;clear aG;go_upto_region 12 with fail;refine jk 11 [.pointer (some ⟨B,3,none⟩), .bool bi, .bool bi,bif bi then .pointer (some ⟨C,3,none⟩)else undef,bif bi then .int .i64 t else undef,bif bi then .pointer (some ⟨B,5,none⟩)else undef,bif bi then .int .i64 A else undef,bif bi then .bool aq else undef,bif bi then .bool (!aq)else undef,bif bi then .bool (!aq)else .bool false, .bool aV] ?zI ?_;case zI=>
  refine⟨?ZD,?xG,?xH,?xI,?xJ,?xK,?xL,?xM,?xN,?xO,?zA,trivial⟩;all_goals intro u w' b a
  all_goals simp only[z1,z2,z3,z4,an,Act.put,z5,z6,z7,Nat.reduceAdd,Nat.zero_add]
  case xG=>
   simp only[show u 0=_ from a 0];refine aB ?_;have q:_=some (Value.bool bi):=(n.out.fr b (fun x=>x)).cell 3;go_simp;exact⟨rfl,Fr.refl _ _⟩
  case' xH=>simp only[show u 1=_ from a 1]
  case' xI=>
   simp only[show u 2=_ from a 2];cases bi;case false=>exact bB
  case xJ=>
   simp only[show u 3=_ from a 3,show u 2=_ from a 2];cases bi;case false=>exact bB
   refine aB ?_;have q:_=some (Value.int .i64 t):=(o.out.fr b (fun x=>x)).cell 3;go_simp;exact⟨rfl,Fr.refl _ _⟩
  case' xK=>
   simp only[show u 2=_ from a 2];cases bi;case false=>exact bB
  case xL=>
   simp only[show u 5=_ from a 5,show u 2=_ from a 2];cases bi;case false=>exact bB
   refine aB ?_;have q:_=some (Value.int .i64 A):=(n.out.fr b (fun x=>x)).cell 5;go_simp;exact⟨rfl,Fr.refl _ _⟩
  case xM=>
   simp only[show u 4=_ from a 4,show u 6=_ from a 6,show u 2=_ from a 2];cases bi;case false=>exact bB
   refine aB ?_;go_simp;refine(bc.out _).mono ?_;rintro e a2⟨rfl,rfl⟩;exact⟨rfl,Fr.refl _ _⟩
  case' xN=>
   simp only[show u 7=_ from a 7,show u 2=_ from a 2];cases bi;case false=>exact bB
  case' xO=>
   simp only[show u 2=_ from a 2,show u 8=_ from a 8];cases bi
  case zA=>
   simp only[show u 9=_ from a 9];cases bi<;>exact aB (by go_simp;exact⟨by rw[←Y.out];rfl,Fr.refl _ _⟩)
  all_goals
   try simp only[cond]
   refine aB ?_;go_simp;exact⟨rfl,Fr.refl _ _⟩
 intro w' b;simp only[z1,z2,z3,z4,an,Act.put,z5,z6,z7,z8,z9,jl,jm,Nat.reduceAdd,Nat.zero_add];have m:=Lib.hid (m.out.trans b);have o:=Lib.hid (o.out.fr b (fun x=>x));have n:=Lib.hid (n.out.fr b (fun x=>x));clear b;have K:Hid ((bi&&!aq)=aV):=by
  rw[Hid,←Y.out];cases bi<;>simp
 clear Y;cases Q:aV;case true=>
  rw[Q]at K;clear Q;go_wp2;go_ret;refine⟨_,rfl,?_,m.out⟩;rw[p.out,l.out,K.out];simp
 rw[Q]at K;clear Q;obtain⟨H,a6⟩:∃z:Bool,(bif g then(!R)else false)=z:=⟨_,rfl⟩;have aX:=Lib.hid a6;clear a6;go_upto_region 14 with fail;refine jk 9 [.pointer (some ⟨B,4,none⟩), .bool g, .bool g,bif g then .pointer (some ⟨C,4,none⟩)else undef,bif g then .string s else undef,bif g then .bool R else undef,bif g then .bool (!R)else undef,bif g then .bool (!R)else .bool false, .bool H] ?zJ ?_;case zJ=>
  refine⟨?ZE,?xP,?xQ,?xR,?xS,?xT,?xU,?xV,?xW,trivial⟩;all_goals intro u w' b a
  all_goals simp only[z1,z2,z3,z4,an,Act.put,z5,z6,z7,Nat.reduceAdd,Nat.zero_add]
  case xP=>
   simp only[show u 0=_ from a 0];refine aB ?_;have q:_=some (Value.bool g):=(n.out.fr b (fun x=>x)).cell 4;go_simp;exact⟨rfl,Fr.refl _ _⟩
  case' xQ=>simp only[show u 1=_ from a 1]
  case' xR=>
   simp only[show u 2=_ from a 2];cases g;case false=>exact bB
  case xS=>
   simp only[show u 3=_ from a 3,show u 2=_ from a 2];cases g;case false=>exact bB
   refine aB ?_;have q:_=some (Value.string s):=(o.out.fr b (fun x=>x)).cell 4;go_simp;exact⟨rfl,Fr.refl _ _⟩
  case xT=>
   simp only[show u 4=_ from a 4,show u 2=_ from a 2];cases g;case false=>exact bB
   refine aB ?_;go_simp;refine(be.out _).mono ?_;rintro e a2⟨rfl,f9⟩;exact⟨rfl,f9⟩
  case' xU=>
   simp only[show u 5=_ from a 5,show u 2=_ from a 2];cases g;case false=>exact bB
  case' xV=>
   simp only[show u 2=_ from a 2,show u 6=_ from a 6];cases g
  case xW=>
   simp only[show u 7=_ from a 7];cases g<;>exact aB (by go_simp;exact⟨by rw[←aX.out];rfl,Fr.refl _ _⟩)
  all_goals
   try simp only[cond]
   refine aB ?_;go_simp;exact⟨rfl,Fr.refl _ _⟩
 intro w' b;simp only[z1,z2,z3,z4,an,Act.put,z5,z6,z7,z8,z9,jl,jm,Nat.reduceAdd,Nat.zero_add];have m:=Lib.hid (m.out.trans b);have o:=Lib.hid (o.out.fr b (fun x=>x));have n:=Lib.hid (n.out.fr b (fun x=>x));clear b;have aL:Hid ((g&&!R)=H):=by
  rw[Hid,←aX.out];cases g<;>simp
 clear aX;cases aN:H;case true=>
  rw[aN]at aL;clear aN;go_wp2;go_ret;refine⟨_,rfl,?_,m.out⟩;rw[p.out,l.out,aL.out];simp
 rw[aN]at aL;clear aN;go_wp2;go_ret;refine⟨_,rfl,?_,m.out⟩;rw[p.out,l.out,D.out,F.out,G.out,I.out,aK.out,J.out,K.out,aL.out];rfl
theorem j9(n:aD)(w:World)(o:dy w)(f:n.owner.size≤1099511627776)(g:n.text.size≤1099511627776):Calls Tryz.prog 115 #[.agg n.cells.toArray] w (Checked w n):=by
 obtain⟨a,l,j,i,m⟩:=n;simp only at f g;by_cases v:1≤a∧a≤20
 ·obtain⟨k,rfl⟩:∃k:Nat,a=(k:Int):=⟨a.toNat,by omega⟩;have d:1≤k∧k≤20:=by omega
  have A:fQ.length=21:=by decide
  obtain⟨u,hu⟩:∃u,fQ[k]? =some u:=⟨_,List.getElem?_eq_getElem (show k<fQ.length by omega)⟩;obtain⟨wd,s,r,bi,t,x⟩:=u;exact y8 k l j i m wd s r bi t x w o d hu f g
 ·have c:(decide (1≤a)&&decide (a≤20))=false:=by
   rw[Bool.and_eq_false_iff,decide_eq_false_iff_not,decide_eq_false_iff_not];omega
  have b:Hid (cU ⟨a,l,j,i,m⟩=false):=by
   simp only[Hid,cU];rw[c];rfl
  have q:Hid (∀w,Calls Tryz.prog 152 #[.int .i64 a] w (bj w (.bool false))):=fun w=>by
   have h:=ry a w;rw[c]at h;exact h
  clear o v f g c;go_enter Tryz.func115,Tryz.ntmps115;go_wp2_with(refine au rfl 106 (.tmp 0) rfl #[.int .i64 a, .string l, .int .i64 j, .int .i64 i, .string m] rfl ?_);intro w1 n1;have p:=Lib.hid n1.fr;have y:w1.cell? ⟨w.heap.size,0,none⟩=some (.int .i64 a):=n1.az.cell 0;clear n1;generalize w.heap.size=z at*;go_wp2_with fail;refine(q.out _).mono ?_;rintro e w'⟨rfl,rfl⟩;go_wp2;go_ret;exact⟨11,rfl,by rw[b.out];rfl,p.out⟩
end Go.Proofs.YtphjagkehiklkaaGreatDoor
namespace Go.Proofs.YtphjagkehiklkaaGreatDoor
open Go.RowKit Go.Shelf
theorem CL.one{w:World}{g:Nat}{t:TypeId}{c:CV}(h:ak w g t c.cells.toArray):CL w (fun _=>True) (some ⟨g,0,none⟩) 1 [c]:=by
 refine⟨⟨rfl,fun _=>⟨_,rfl,trivial,fun j y a=>?_⟩⟩,rfl⟩;rw[Addr.add_mid,Nat.zero_add,h.cell,List.getElem?_toArray];simpa using a
end Go.Proofs.YtphjagkehiklkaaGreatDoor
namespace Go.Proofs.YtphjagkehiklkaaGreatDoor
open Go.ChangeShapes Go.WideShapes Go.ChangeAt Go.RowKit Go.Deep
def wT:List Int:=[1779033703,3144134277,1013904242,2773480762,1359893119,2600822924,528734635,1541459225]
def IM:List Int:=rz.map (fun n:Nat=>(n:Int))
structure aD.kX(n:aD):Prop where
 kind:-9223372036854775808≤n.kind∧n.kind≤9223372036854775807
 number:-9223372036854775808≤n.number∧n.number≤9223372036854775807
 index:-9223372036854775808≤n.index∧n.index≤9223372036854775807
 owner:n.owner.size≤9223372036854775807
 text:n.text.size≤9223372036854775807
structure CV.kX(c:CV):Prop where
 nm:c.nm.kX
 value:c.value.size≤9223372036854775807
end Go.Proofs.YtphjagkehiklkaaGreatDoor
namespace Go.Proofs.YtphjagkehiklkaaGreatDoor
open Go.RowKit
def aL(l:List UInt8):Value:= .agg (l.map aU).toArray
end Go.Proofs.YtphjagkehiklkaaGreatDoor
namespace Go.Proofs.YtphjagkehiklkaaGreatDoor.Lt
open Go.RowKit
def bj(w:World)(v:Value)(e:Ending)(w':World):Prop:=e= .returned v∧w=w'
end Go.Proofs.YtphjagkehiklkaaGreatDoor.Lt
