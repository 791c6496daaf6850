/- Texts. -/
import Derived.Test.YtphjagkehiklkaaGreatDoorWK06
import Derived.Test.YtphjagkehiklkaaGreatDoorWK07
set_option linter.unusedVariables false
set_option linter.unusedSimpArgs false
set_option maxRecDepth 100000
set_option maxHeartbeats 4000000
namespace Go.Proofs.YtphjagkehiklkaaGreatDoor
open Go.RowKit Go.Shelf
attribute[local go_sem]Oper.semAt_some
theorem x9(b:UInt8)(w:World):Calls Tryz.prog 184 #[.int .u8 b.toNat] w (aY w (.bool (lP b))):=by
 by_cases c:48≤b.toNat
 ·have t1:decide ((48:Int)≤(b.toNat:Int))=true:=dh (by omega);by_cases d:b.toNat≤57
  ·have t2:decide ((b.toNat:Int)≤57)=true:=dh (by omega);have a:lP b=true:=by simp[lP,c,d]
   rw[a];go_enter Tryz.func184,Tryz.ntmps184;go_wp2;go_ret;exact⟨rfl,rfl⟩
  ·have t2:decide ((b.toNat:Int)≤57)=false:=ct (by omega);have a:lP b=false:=by simp[lP,d]
   rw[a];go_enter Tryz.func184,Tryz.ntmps184;go_wp2;go_ret;exact⟨rfl,rfl⟩
 ·have t1:decide ((48:Int)≤(b.toNat:Int))=false:=ct (by omega);have a:lP b=false:=by simp[lP,c]
  rw[a];go_enter Tryz.func184,Tryz.ntmps184;go_wp2;go_ret;exact⟨rfl,rfl⟩
def bF(p:Part):Array Value:=#[.int .i64 p.ord, .int .i64 p.at_, .int .i64 p.e]
def nO:Array Value:=#[.int .i64 0, .int .i64 0, .int .i64 0]
theorem tj(w:World):(zeroValue 270).run Tryz.prog w= .ok (.agg nO) w:=by kernel_rfl
theorem dd(p:Part):(bF p).all (·.oneCell')=true:=by simp[bF,Value.oneCell']
theorem cm:(Tryz.prog.info? 270).map (·.size)=some 3:=by kernel_rfl
theorem eW(s:ByteArray):s.toList.length=s.size:=by rw[ByteArray.toList_eq];rfl
theorem yt{s:ByteArray}{i:Nat}{b:UInt8}(h:s.toList[i]? =some b):∃h:i<s.size,s[i]=b:=by
 obtain⟨a,c⟩:=List.getElem?_eq_some_iff.1 h;have d:i<s.size:=by rw[←eW];exact a
 refine⟨d,?_⟩;rw[←c];simp only[ByteArray.toList_eq];rfl
theorem bV(tmps:Array Value)(w:World)(g:Nat)(cs:Array Value)(v:Value)
  (c:tmps.getD 6 undef= .pointer (some ⟨g,0,none⟩))(d:tmps.getD 7 undef=v)(e:aq w g 270 cs)(f:cs.size=3):
  (results Tryz.f183 tmps).run Tryz.prog w= .ok (.tuple #[.agg cs,v]) w:=by
 have a:tmps[6]?.getD undef= .pointer (some ⟨g,0,none⟩):=by simpa using c
 have b:tmps[7]?.getD undef=v:=by simpa using d
 simp[results,Tryz.results183,a,b,asAddr,run_loadVar_row w g 270 270 cs (0,0) _ e Tryz.underlying270 rfl (by rw[f];exact cm)]
theorem Bo(s:ByteArray)(at_ count:Nat)(w:World)(aB:at_≤s.size)(aC:s.size≤1099511627776)(aI:count≤8):
  Calls Tryz.prog 183 #[.string s, .int .i64 at_, .int .i64 count] w (aJ w (.tuple #[.agg (bF (cR count at_ (s.toList.drop at_)).1), .int .i64 ((cR count at_ (s.toList.drop at_)).2:Nat)])):=by
 obtain⟨l,f⟩:∃l,l=s.toList.drop at_:=⟨_,rfl⟩;rw[←f];obtain⟨ds,ah⟩:∃ds,ds=dy 7 l:=⟨_,rfl⟩;have ab:=af ah;have aa:Hid (∀i b,l[i]? =some b→∃h:at_+i<s.size,s[at_+i]=b):=fun i b R=>by
  rw[f,List.getElem?_drop]at R;exact yt R
 have al:Hid (∀i,at_+i<s.size→∃b,l[i]? =some b):=fun i I=>by
  rw[f,List.getElem?_drop];exact⟨_,List.getElem?_eq_getElem (by rw[eW];exact I)⟩
 have o:Hid (l.length+at_=s.size∧(l≠[]→∃z,∃h:at_<s.size,l[0]? =some z∧s[at_]=z)):=by
  refine⟨by rw[f,List.length_drop,eW];omega,fun ax=>?_⟩;obtain⟨z,u⟩:∃z,l[0]? =some z:=by
   cases l with
   |nil=>exact absurd rfl ax
   |cons z r=>exact⟨z,rfl⟩
  obtain⟨h,e⟩:=aa.out 0 z u;exact⟨z,h,u,e⟩
 have aq:=af (kI 7 l);have ad:=af (uU 7 l);have ae:=af (nS 7 l);have ac:=af (rT 7 l);rw[←ah]at aq ad ae ac;clear ah f;have aF:=af aB;have az:=af aC;have Z:=af (fun b w=>x9 b w);clear aB aC;go_enter Tryz.func183,Tryz.ntmps183;go_wp2_with(refine ak rfl 270 rfl (.agg nO) tj nO rfl ?_);intro w1 n1;have L:=af n1.fr;have K:=af n1.aH;have M:Sz w w.heap.size:=Nat.le_refl _;clear n1;generalize w.heap.size=g1 at*;go_wp2;go_loopw[8,9](fun i n wr=>∃j:Nat,j≤ds.length∧i= .int .i64 ((at_+j:Nat):Int)∧n= .int .i64 ((eT (ds.take j):Nat):Int)∧w1=wr)(fun i _ _=>at_+8-(intOf i).toNat);case atStart=>exact⟨0,Nat.zero_le _,rfl,rfl,rfl⟩
 case round=>
 obtain⟨j,au,rfl,rfl,rfl⟩:=hrel;have J:=ad.out j au;obtain⟨q,aj⟩:∃q,q=at_+j:=⟨_,rfl⟩;rw[←aj];obtain⟨N,ar⟩:∃N,N=eT (ds.take j):=⟨_,rfl⟩;rw[←ar];have ap:=af ar;clear ar;by_cases T:j<ds.length
 ·obtain⟨aO,b,R,S⟩:=J.1 T;obtain⟨ay,an⟩:=aa.out j b R;have Y:=af T;have F:Hid (q=at_+j):=aj;have HB:=af R;have t0:(q:Int)<(s.size:Int):=by omega
  have aR:q<s.size:=by omega
  have t1:(q:Int)-(at_:Int)≤6:=by omega
  have t2:(0:Int)≤(q:Int):=by omega
  have t3:s[q]=b:=by subst aj;exact an
  have t4:lP b=true:=S;have aK:48≤b.toNat∧b.toNat≤57:=by simpa[lP]using S
  have am:Hid (N*10+(b.toNat-48)=eT (ds.take (j+1))∧N<10000000):=by
   have av:ds[j]? =some b:=by
    rw[ae.out,List.getElem?_take_of_lt T];exact R
   constructor;·rw[List.take_add_one,av,Option.toList_some,lB,←ap.out]
   ·rw[ap.out];refine Nat.lt_of_lt_of_le (Ho _ (ds.take j) rfl (fun x aP=>ac.out x (List.mem_of_mem_take aP))) ?_;refine Nat.le_trans (Nat.pow_le_pow_right (by omega) (show(ds.take j).length≤7 by rw[List.length_take];omega)) (by decide)
  obtain⟨d,t⟩:∃d,d=b.toNat-48:=⟨_,rfl⟩;have t5:(b.toNat:Int)-48=(d:Int):=by omega
  have t6:d≤9:=by omega
  have aG:=af t;have nb:=am.out.2;have nq:q≤1099511627776:=by have:=az.out;omega
  have aQ:at_≤q:=by omega
  clear aj an ay R S aK J T aO t au;go_wp2_with fail;refine(Z.out b _).mono ?_;rintro e w'⟨rfl,rfl⟩;rw[t4];go_wp2;go_roundw;case rel=>
   have X:=F.out;have Q:=am.out.1;have aA:=aG.out;exact⟨j+1,Y.out,by go_num,by rw[←Q];go_num,by first|rfl|trivial⟩
  case measure=>
   have X:=F.out;have Q:=Y.out;have aA:=aq.out.1;simp[intOf];omega
 ·obtain rfl:j=ds.length:=by omega
  have F:Hid (q=at_+ds.length):=aj;obtain rfl:N=eT ds:=by rw[ap.out,List.take_length]
  have ao:s.size≤q∨(q<s.size∧ds.length=7)∨(q<s.size∧ds.length≤6∧∃b,(∃h:q<s.size,s[q]=b)∧lP b=false):=by
   by_cases X:q<s.size
   ·right;by_cases Q:ds.length=7;·exact .inl ⟨X,Q⟩
    ·right;have aA:=aq.out.1;refine⟨X,by omega,?_⟩;obtain⟨b,R⟩:=al.out ds.length (by omega);obtain⟨aT,aM⟩:=aa.out _ _ R;refine⟨b,⟨X,?_⟩,?_⟩;·subst aj;exact aM
     ·cases aN:lP b;·rfl
      ·exact absurd (J.2 ⟨by omega,b,R,aN⟩) T
   ·exact .inl (by omega)
  have W:=af ao;have aS:ds.length≤7:=aq.out.1;have aQ:at_≤q:=by omega
  have nq:q≤1099511627783:=by have:=az.out;have:=aF.out;omega
  clear ao J aj T au ap ad ae ac al;rcases W.out with X|⟨X,Q⟩|⟨X,Q,b,⟨aL,R⟩,S⟩
  ·clear W;have aD:¬(q:Int)<(s.size:Int):=by omega
   have aE:¬q<s.size:=by omega
   clear X;have p:Hid (cR count at_ l=if count=8 then(⟨0,at_,9⟩,at_)else if l=[]then(⟨0,at_,4⟩,at_)else if ds=[]then(⟨0,at_,6⟩,at_)else if l[0]? =some 48 then(⟨0,at_,3⟩,at_)else if 6<ds.length then(⟨0,at_,2⟩,at_)else(⟨eT ds,at_,0⟩,at_+ds.length)):=by simp only[Hid];rw[ab.out];rfl
   by_cases a:count=8
   ·have c:Hid (cR count at_ l=(⟨0,at_,9⟩,at_)):=by simp only[Hid];rw[p.out,if_pos a]
    have m:((count:Int)==8)=true:=by rw[beq_iff_eq];have:=a;omega
    clear a;go_wp2_with(refine ai rfl 270 (.tmp 6) _ rfl g1 (bF ⟨0,at_,9⟩) rfl rfl _ _ K.out cm rfl (dd _) ?_);intro D g k;have v:=af g;have y:Hid (Fr ag w D):=L.out.aw k (fun i I e=>by have O:i=g1:=e;have:=M;unfold Sz at this;omega);clear g k;go_wp2;refine bodyPost_ret (bV _ _ g1 (bF ⟨0,at_,9⟩) _ rfl rfl v.out rfl) rfl ?_;rw[c.out];exact⟨rfl,y.out⟩
   by_cases f:l=[]
   ·have c:Hid (cR count at_ l=(⟨0,at_,4⟩,at_)):=by simp only[Hid];rw[p.out,if_neg a,if_pos f]
    have m:((count:Int)==8)=false:=by rw[beq_eq_false_iff_ne];have:=a;omega
    have E:((at_:Int)==(s.size:Int))=true:=by rw[beq_iff_eq];have:=o.out.1;have G:l.length=0:=(by simp[f]);omega
    clear a f;go_wp2_with(refine ai rfl 270 (.tmp 6) _ rfl g1 (bF ⟨0,at_,4⟩) rfl rfl _ _ K.out cm rfl (dd _) ?_);intro D g k;have v:=af g;have y:Hid (Fr ag w D):=L.out.aw k (fun i I e=>by have O:i=g1:=e;have:=M;unfold Sz at this;omega);clear g k;go_wp2;refine bodyPost_ret (bV _ _ g1 (bF ⟨0,at_,4⟩) _ rfl rfl v.out rfl) rfl ?_;rw[c.out];exact⟨rfl,y.out⟩
   by_cases t:ds=[]
   ·have c:Hid (cR count at_ l=(⟨0,at_,6⟩,at_)):=by simp only[Hid];rw[p.out,if_neg a,if_neg f,if_pos t]
    have m:((count:Int)==8)=false:=by rw[beq_eq_false_iff_ne];have:=a;omega
    have E:((at_:Int)==(s.size:Int))=false:=by rw[beq_eq_false_iff_ne];have:=o.out.1;have G:l.length≠0:=fun h=>f (List.length_eq_zero_iff.1 h);omega
    have H:((q:Int)==(at_:Int))=true:=by rw[beq_iff_eq];have:=F.out;have G:ds.length=0:=(by simp[t]);omega
    clear a f t;go_wp2_with(refine ai rfl 270 (.tmp 6) _ rfl g1 (bF ⟨0,at_,6⟩) rfl rfl _ _ K.out cm rfl (dd _) ?_);intro D g k;have v:=af g;have y:Hid (Fr ag w D):=L.out.aw k (fun i I e=>by have O:i=g1:=e;have:=M;unfold Sz at this;omega);clear g k;go_wp2;refine bodyPost_ret (bV _ _ g1 (bF ⟨0,at_,6⟩) _ rfl rfl v.out rfl) rfl ?_;rw[c.out];exact⟨rfl,y.out⟩
   by_cases u:l[0]? =some 48
   ·have c:Hid (cR count at_ l=(⟨0,at_,3⟩,at_)):=by simp only[Hid];rw[p.out,if_neg a,if_neg f,if_neg t,if_pos u]
    have m:((count:Int)==8)=false:=by rw[beq_eq_false_iff_ne];have:=a;omega
    have E:((at_:Int)==(s.size:Int))=false:=by rw[beq_eq_false_iff_ne];have:=o.out.1;have G:l.length≠0:=fun h=>f (List.length_eq_zero_iff.1 h);omega
    have H:((q:Int)==(at_:Int))=false:=by rw[beq_eq_false_iff_ne];have:=F.out;have G:ds.length≠0:=fun h=>t (List.length_eq_zero_iff.1 h);omega
    obtain⟨z,A,B,C⟩:=o.out.2 (fun h=>f h);have i1:at_<s.size:=A;have i2:(at_:Int)<(s.size:Int):=by omega
    have i3:(0:Int)≤(at_:Int):=by omega
    have i4:s[at_]=z:=C;have P:((z.toNat:Int)==48)=true:=by
     rw[B]at u;have U:z=48:=Option.some.inj u;subst U;rfl
    clear a f t u;go_wp2_with(refine ai rfl 270 (.tmp 6) _ rfl g1 (bF ⟨0,at_,3⟩) rfl rfl _ _ K.out cm rfl (dd _) ?_);intro D g k;have v:=af g;have y:Hid (Fr ag w D):=L.out.aw k (fun i I e=>by have O:i=g1:=e;have:=M;unfold Sz at this;omega);clear g k;go_wp2;refine bodyPost_ret (bV _ _ g1 (bF ⟨0,at_,3⟩) _ rfl rfl v.out rfl) rfl ?_;rw[c.out];exact⟨rfl,y.out⟩
   by_cases hm:6<ds.length
   ·have c:Hid (cR count at_ l=(⟨0,at_,2⟩,at_)):=by simp only[Hid];rw[p.out,if_neg a,if_neg f,if_neg t,if_neg u,if_pos hm]
    have m:((count:Int)==8)=false:=by rw[beq_eq_false_iff_ne];have:=a;omega
    have E:((at_:Int)==(s.size:Int))=false:=by rw[beq_eq_false_iff_ne];have:=o.out.1;have G:l.length≠0:=fun h=>f (List.length_eq_zero_iff.1 h);omega
    have H:((q:Int)==(at_:Int))=false:=by rw[beq_eq_false_iff_ne];have:=F.out;have G:ds.length≠0:=fun h=>t (List.length_eq_zero_iff.1 h);omega
    obtain⟨z,A,B,C⟩:=o.out.2 (fun h=>f h);have i1:at_<s.size:=A;have i2:(at_:Int)<(s.size:Int):=by omega
    have i3:(0:Int)≤(at_:Int):=by omega
    have i4:s[at_]=z:=C;have P:((z.toNat:Int)==48)=false:=by
     rw[B]at u;rw[beq_eq_false_iff_ne];intro h;apply u;have:z=48:=by
      apply UInt8.toNat_inj.1;have Q:(48:UInt8).toNat=48:=rfl;omega
     rw[this]
    have V:decide (6<(q:Int)-(at_:Int))=true:=dh (by have:=F.out;omega);clear a f t u hm;go_wp2_with(refine ai rfl 270 (.tmp 6) _ rfl g1 (bF ⟨0,at_,2⟩) rfl rfl _ _ K.out cm rfl (dd _) ?_);intro D g k;have v:=af g;have y:Hid (Fr ag w D):=L.out.aw k (fun i I e=>by have O:i=g1:=e;have:=M;unfold Sz at this;omega);clear g k;go_wp2;refine bodyPost_ret (bV _ _ g1 (bF ⟨0,at_,2⟩) _ rfl rfl v.out rfl) rfl ?_;rw[c.out];exact⟨rfl,y.out⟩
   have c:Hid (cR count at_ l=(⟨eT ds,at_,0⟩,at_+ds.length)):=by simp only[Hid];rw[p.out,if_neg a,if_neg f,if_neg t,if_neg u,if_neg hm]
   have m:((count:Int)==8)=false:=by rw[beq_eq_false_iff_ne];have:=a;omega
   have E:((at_:Int)==(s.size:Int))=false:=by rw[beq_eq_false_iff_ne];have:=o.out.1;have G:l.length≠0:=fun h=>f (List.length_eq_zero_iff.1 h);omega
   have H:((q:Int)==(at_:Int))=false:=by rw[beq_eq_false_iff_ne];have:=F.out;have G:ds.length≠0:=fun h=>t (List.length_eq_zero_iff.1 h);omega
   obtain⟨z,A,B,C⟩:=o.out.2 (fun h=>f h);have i1:at_<s.size:=A;have i2:(at_:Int)<(s.size:Int):=by omega
   have i3:(0:Int)≤(at_:Int):=by omega
   have i4:s[at_]=z:=C;have P:((z.toNat:Int)==48)=false:=by
    rw[B]at u;rw[beq_eq_false_iff_ne];intro h;apply u;have:z=48:=by
     apply UInt8.toNat_inj.1;have Q:(48:UInt8).toNat=48:=rfl;omega
    rw[this]
   have V:decide (6<(q:Int)-(at_:Int))=false:=ct (by have:=F.out;omega);clear a f t u hm;go_wp2_with(refine ai rfl 270 (.tmp 6) _ rfl g1 (bF ⟨eT ds,at_,0⟩) rfl rfl _ _ K.out cm rfl (dd _) ?_);intro D g k;have v:=af g;have y:Hid (Fr ag w D):=L.out.aw k (fun i I e=>by have O:i=g1:=e;have:=M;unfold Sz at this;omega);clear g k;go_wp2;refine bodyPost_ret (bV _ _ g1 (bF ⟨eT ds,at_,0⟩) _ rfl rfl v.out rfl) rfl ?_;rw[c.out];refine⟨?_,y.out⟩;rw[←F.out];rfl
  ·clear W;have aD:(q:Int)<(s.size:Int):=by omega
   have aE:¬(q:Int)-(at_:Int)≤6:=by have:=F.out;omega
   clear Q;have p:Hid (cR count at_ l=if count=8 then(⟨0,at_,9⟩,at_)else if l=[]then(⟨0,at_,4⟩,at_)else if ds=[]then(⟨0,at_,6⟩,at_)else if l[0]? =some 48 then(⟨0,at_,3⟩,at_)else if 6<ds.length then(⟨0,at_,2⟩,at_)else(⟨eT ds,at_,0⟩,at_+ds.length)):=by simp only[Hid];rw[ab.out];rfl
   by_cases a:count=8
   ·have c:Hid (cR count at_ l=(⟨0,at_,9⟩,at_)):=by simp only[Hid];rw[p.out,if_pos a]
    have m:((count:Int)==8)=true:=by rw[beq_iff_eq];have:=a;omega
    clear a;go_wp2_with(refine ai rfl 270 (.tmp 6) _ rfl g1 (bF ⟨0,at_,9⟩) rfl rfl _ _ K.out cm rfl (dd _) ?_);intro D g k;have v:=af g;have y:Hid (Fr ag w D):=L.out.aw k (fun i I e=>by have O:i=g1:=e;have:=M;unfold Sz at this;omega);clear g k;go_wp2;refine bodyPost_ret (bV _ _ g1 (bF ⟨0,at_,9⟩) _ rfl rfl v.out rfl) rfl ?_;rw[c.out];exact⟨rfl,y.out⟩
   by_cases f:l=[]
   ·have c:Hid (cR count at_ l=(⟨0,at_,4⟩,at_)):=by simp only[Hid];rw[p.out,if_neg a,if_pos f]
    have m:((count:Int)==8)=false:=by rw[beq_eq_false_iff_ne];have:=a;omega
    have E:((at_:Int)==(s.size:Int))=true:=by rw[beq_iff_eq];have:=o.out.1;have G:l.length=0:=(by simp[f]);omega
    clear a f;go_wp2_with(refine ai rfl 270 (.tmp 6) _ rfl g1 (bF ⟨0,at_,4⟩) rfl rfl _ _ K.out cm rfl (dd _) ?_);intro D g k;have v:=af g;have y:Hid (Fr ag w D):=L.out.aw k (fun i I e=>by have O:i=g1:=e;have:=M;unfold Sz at this;omega);clear g k;go_wp2;refine bodyPost_ret (bV _ _ g1 (bF ⟨0,at_,4⟩) _ rfl rfl v.out rfl) rfl ?_;rw[c.out];exact⟨rfl,y.out⟩
   by_cases t:ds=[]
   ·have c:Hid (cR count at_ l=(⟨0,at_,6⟩,at_)):=by simp only[Hid];rw[p.out,if_neg a,if_neg f,if_pos t]
    have m:((count:Int)==8)=false:=by rw[beq_eq_false_iff_ne];have:=a;omega
    have E:((at_:Int)==(s.size:Int))=false:=by rw[beq_eq_false_iff_ne];have:=o.out.1;have G:l.length≠0:=fun h=>f (List.length_eq_zero_iff.1 h);omega
    have H:((q:Int)==(at_:Int))=true:=by rw[beq_iff_eq];have:=F.out;have G:ds.length=0:=(by simp[t]);omega
    clear a f t;go_wp2_with(refine ai rfl 270 (.tmp 6) _ rfl g1 (bF ⟨0,at_,6⟩) rfl rfl _ _ K.out cm rfl (dd _) ?_);intro D g k;have v:=af g;have y:Hid (Fr ag w D):=L.out.aw k (fun i I e=>by have O:i=g1:=e;have:=M;unfold Sz at this;omega);clear g k;go_wp2;refine bodyPost_ret (bV _ _ g1 (bF ⟨0,at_,6⟩) _ rfl rfl v.out rfl) rfl ?_;rw[c.out];exact⟨rfl,y.out⟩
   by_cases u:l[0]? =some 48
   ·have c:Hid (cR count at_ l=(⟨0,at_,3⟩,at_)):=by simp only[Hid];rw[p.out,if_neg a,if_neg f,if_neg t,if_pos u]
    have m:((count:Int)==8)=false:=by rw[beq_eq_false_iff_ne];have:=a;omega
    have E:((at_:Int)==(s.size:Int))=false:=by rw[beq_eq_false_iff_ne];have:=o.out.1;have G:l.length≠0:=fun h=>f (List.length_eq_zero_iff.1 h);omega
    have H:((q:Int)==(at_:Int))=false:=by rw[beq_eq_false_iff_ne];have:=F.out;have G:ds.length≠0:=fun h=>t (List.length_eq_zero_iff.1 h);omega
    obtain⟨z,A,B,C⟩:=o.out.2 (fun h=>f h);have i1:at_<s.size:=A;have i2:(at_:Int)<(s.size:Int):=by omega
    have i3:(0:Int)≤(at_:Int):=by omega
    have i4:s[at_]=z:=C;have P:((z.toNat:Int)==48)=true:=by
     rw[B]at u;have U:z=48:=Option.some.inj u;subst U;rfl
    clear a f t u;go_wp2_with(refine ai rfl 270 (.tmp 6) _ rfl g1 (bF ⟨0,at_,3⟩) rfl rfl _ _ K.out cm rfl (dd _) ?_);intro D g k;have v:=af g;have y:Hid (Fr ag w D):=L.out.aw k (fun i I e=>by have O:i=g1:=e;have:=M;unfold Sz at this;omega);clear g k;go_wp2;refine bodyPost_ret (bV _ _ g1 (bF ⟨0,at_,3⟩) _ rfl rfl v.out rfl) rfl ?_;rw[c.out];exact⟨rfl,y.out⟩
   by_cases hm:6<ds.length
   ·have c:Hid (cR count at_ l=(⟨0,at_,2⟩,at_)):=by simp only[Hid];rw[p.out,if_neg a,if_neg f,if_neg t,if_neg u,if_pos hm]
    have m:((count:Int)==8)=false:=by rw[beq_eq_false_iff_ne];have:=a;omega
    have E:((at_:Int)==(s.size:Int))=false:=by rw[beq_eq_false_iff_ne];have:=o.out.1;have G:l.length≠0:=fun h=>f (List.length_eq_zero_iff.1 h);omega
    have H:((q:Int)==(at_:Int))=false:=by rw[beq_eq_false_iff_ne];have:=F.out;have G:ds.length≠0:=fun h=>t (List.length_eq_zero_iff.1 h);omega
    obtain⟨z,A,B,C⟩:=o.out.2 (fun h=>f h);have i1:at_<s.size:=A;have i2:(at_:Int)<(s.size:Int):=by omega
    have i3:(0:Int)≤(at_:Int):=by omega
    have i4:s[at_]=z:=C;have P:((z.toNat:Int)==48)=false:=by
     rw[B]at u;rw[beq_eq_false_iff_ne];intro h;apply u;have:z=48:=by
      apply UInt8.toNat_inj.1;have Q:(48:UInt8).toNat=48:=rfl;omega
     rw[this]
    have V:decide (6<(q:Int)-(at_:Int))=true:=dh (by have:=F.out;omega);clear a f t u hm;go_wp2_with(refine ai rfl 270 (.tmp 6) _ rfl g1 (bF ⟨0,at_,2⟩) rfl rfl _ _ K.out cm rfl (dd _) ?_);intro D g k;have v:=af g;have y:Hid (Fr ag w D):=L.out.aw k (fun i I e=>by have O:i=g1:=e;have:=M;unfold Sz at this;omega);clear g k;go_wp2;refine bodyPost_ret (bV _ _ g1 (bF ⟨0,at_,2⟩) _ rfl rfl v.out rfl) rfl ?_;rw[c.out];exact⟨rfl,y.out⟩
   have c:Hid (cR count at_ l=(⟨eT ds,at_,0⟩,at_+ds.length)):=by simp only[Hid];rw[p.out,if_neg a,if_neg f,if_neg t,if_neg u,if_neg hm]
   have m:((count:Int)==8)=false:=by rw[beq_eq_false_iff_ne];have:=a;omega
   have E:((at_:Int)==(s.size:Int))=false:=by rw[beq_eq_false_iff_ne];have:=o.out.1;have G:l.length≠0:=fun h=>f (List.length_eq_zero_iff.1 h);omega
   have H:((q:Int)==(at_:Int))=false:=by rw[beq_eq_false_iff_ne];have:=F.out;have G:ds.length≠0:=fun h=>t (List.length_eq_zero_iff.1 h);omega
   obtain⟨z,A,B,C⟩:=o.out.2 (fun h=>f h);have i1:at_<s.size:=A;have i2:(at_:Int)<(s.size:Int):=by omega
   have i3:(0:Int)≤(at_:Int):=by omega
   have i4:s[at_]=z:=C;have P:((z.toNat:Int)==48)=false:=by
    rw[B]at u;rw[beq_eq_false_iff_ne];intro h;apply u;have:z=48:=by
     apply UInt8.toNat_inj.1;have Q:(48:UInt8).toNat=48:=rfl;omega
    rw[this]
   have V:decide (6<(q:Int)-(at_:Int))=false:=ct (by have:=F.out;omega);clear a f t u hm;go_wp2_with(refine ai rfl 270 (.tmp 6) _ rfl g1 (bF ⟨eT ds,at_,0⟩) rfl rfl _ _ K.out cm rfl (dd _) ?_);intro D g k;have v:=af g;have y:Hid (Fr ag w D):=L.out.aw k (fun i I e=>by have O:i=g1:=e;have:=M;unfold Sz at this;omega);clear g k;go_wp2;refine bodyPost_ret (bV _ _ g1 (bF ⟨eT ds,at_,0⟩) _ rfl rfl v.out rfl) rfl ?_;rw[c.out];refine⟨?_,y.out⟩;rw[←F.out];rfl
  ·clear W;have aD:(q:Int)<(s.size:Int):=by omega
   have aE:(q:Int)-(at_:Int)≤6:=by have:=F.out;omega
   have aU:(0:Int)≤(q:Int):=by omega
   have aV:s[q]=b:=R;have t4:lP b=false:=S;clear R S Q;have p:Hid (cR count at_ l=if count=8 then(⟨0,at_,9⟩,at_)else if l=[]then(⟨0,at_,4⟩,at_)else if ds=[]then(⟨0,at_,6⟩,at_)else if l[0]? =some 48 then(⟨0,at_,3⟩,at_)else if 6<ds.length then(⟨0,at_,2⟩,at_)else(⟨eT ds,at_,0⟩,at_+ds.length)):=by simp only[Hid];rw[ab.out];rfl
   by_cases a:count=8
   ·have c:Hid (cR count at_ l=(⟨0,at_,9⟩,at_)):=by simp only[Hid];rw[p.out,if_pos a]
    have m:((count:Int)==8)=true:=by rw[beq_iff_eq];have:=a;omega
    clear a;go_wp2_with fail;refine(Z.out b _).mono ?_;rintro e w'⟨rfl,rfl⟩;rw[t4];go_wp2_with(refine ai rfl 270 (.tmp 6) _ rfl g1 (bF ⟨0,at_,9⟩) rfl rfl _ _ K.out cm rfl (dd _) ?_);intro D g k;have v:=af g;have y:Hid (Fr ag w D):=L.out.aw k (fun i I e=>by have O:i=g1:=e;have:=M;unfold Sz at this;omega);clear g k;go_wp2;refine bodyPost_ret (bV _ _ g1 (bF ⟨0,at_,9⟩) _ rfl rfl v.out rfl) rfl ?_;rw[c.out];exact⟨rfl,y.out⟩
   by_cases f:l=[]
   ·have c:Hid (cR count at_ l=(⟨0,at_,4⟩,at_)):=by simp only[Hid];rw[p.out,if_neg a,if_pos f]
    have m:((count:Int)==8)=false:=by rw[beq_eq_false_iff_ne];have:=a;omega
    have E:((at_:Int)==(s.size:Int))=true:=by rw[beq_iff_eq];have:=o.out.1;have G:l.length=0:=(by simp[f]);omega
    clear a f;go_wp2_with fail;refine(Z.out b _).mono ?_;rintro e w'⟨rfl,rfl⟩;rw[t4];go_wp2_with(refine ai rfl 270 (.tmp 6) _ rfl g1 (bF ⟨0,at_,4⟩) rfl rfl _ _ K.out cm rfl (dd _) ?_);intro D g k;have v:=af g;have y:Hid (Fr ag w D):=L.out.aw k (fun i I e=>by have O:i=g1:=e;have:=M;unfold Sz at this;omega);clear g k;go_wp2;refine bodyPost_ret (bV _ _ g1 (bF ⟨0,at_,4⟩) _ rfl rfl v.out rfl) rfl ?_;rw[c.out];exact⟨rfl,y.out⟩
   by_cases t:ds=[]
   ·have c:Hid (cR count at_ l=(⟨0,at_,6⟩,at_)):=by simp only[Hid];rw[p.out,if_neg a,if_neg f,if_pos t]
    have m:((count:Int)==8)=false:=by rw[beq_eq_false_iff_ne];have:=a;omega
    have E:((at_:Int)==(s.size:Int))=false:=by rw[beq_eq_false_iff_ne];have:=o.out.1;have G:l.length≠0:=fun h=>f (List.length_eq_zero_iff.1 h);omega
    have H:((q:Int)==(at_:Int))=true:=by rw[beq_iff_eq];have:=F.out;have G:ds.length=0:=(by simp[t]);omega
    clear a f t;go_wp2_with fail;refine(Z.out b _).mono ?_;rintro e w'⟨rfl,rfl⟩;rw[t4];go_wp2_with(refine ai rfl 270 (.tmp 6) _ rfl g1 (bF ⟨0,at_,6⟩) rfl rfl _ _ K.out cm rfl (dd _) ?_);intro D g k;have v:=af g;have y:Hid (Fr ag w D):=L.out.aw k (fun i I e=>by have O:i=g1:=e;have:=M;unfold Sz at this;omega);clear g k;go_wp2;refine bodyPost_ret (bV _ _ g1 (bF ⟨0,at_,6⟩) _ rfl rfl v.out rfl) rfl ?_;rw[c.out];exact⟨rfl,y.out⟩
   by_cases u:l[0]? =some 48
   ·have c:Hid (cR count at_ l=(⟨0,at_,3⟩,at_)):=by simp only[Hid];rw[p.out,if_neg a,if_neg f,if_neg t,if_pos u]
    have m:((count:Int)==8)=false:=by rw[beq_eq_false_iff_ne];have:=a;omega
    have E:((at_:Int)==(s.size:Int))=false:=by rw[beq_eq_false_iff_ne];have:=o.out.1;have G:l.length≠0:=fun h=>f (List.length_eq_zero_iff.1 h);omega
    have H:((q:Int)==(at_:Int))=false:=by rw[beq_eq_false_iff_ne];have:=F.out;have G:ds.length≠0:=fun h=>t (List.length_eq_zero_iff.1 h);omega
    obtain⟨z,A,B,C⟩:=o.out.2 (fun h=>f h);have i1:at_<s.size:=A;have i2:(at_:Int)<(s.size:Int):=by omega
    have i3:(0:Int)≤(at_:Int):=by omega
    have i4:s[at_]=z:=C;have P:((z.toNat:Int)==48)=true:=by
     rw[B]at u;have U:z=48:=Option.some.inj u;subst U;rfl
    clear a f t u;go_wp2_with fail;refine(Z.out b _).mono ?_;rintro e w'⟨rfl,rfl⟩;rw[t4];go_wp2_with(refine ai rfl 270 (.tmp 6) _ rfl g1 (bF ⟨0,at_,3⟩) rfl rfl _ _ K.out cm rfl (dd _) ?_);intro D g k;have v:=af g;have y:Hid (Fr ag w D):=L.out.aw k (fun i I e=>by have O:i=g1:=e;have:=M;unfold Sz at this;omega);clear g k;go_wp2;refine bodyPost_ret (bV _ _ g1 (bF ⟨0,at_,3⟩) _ rfl rfl v.out rfl) rfl ?_;rw[c.out];exact⟨rfl,y.out⟩
   by_cases hm:6<ds.length
   ·have c:Hid (cR count at_ l=(⟨0,at_,2⟩,at_)):=by simp only[Hid];rw[p.out,if_neg a,if_neg f,if_neg t,if_neg u,if_pos hm]
    have m:((count:Int)==8)=false:=by rw[beq_eq_false_iff_ne];have:=a;omega
    have E:((at_:Int)==(s.size:Int))=false:=by rw[beq_eq_false_iff_ne];have:=o.out.1;have G:l.length≠0:=fun h=>f (List.length_eq_zero_iff.1 h);omega
    have H:((q:Int)==(at_:Int))=false:=by rw[beq_eq_false_iff_ne];have:=F.out;have G:ds.length≠0:=fun h=>t (List.length_eq_zero_iff.1 h);omega
    obtain⟨z,A,B,C⟩:=o.out.2 (fun h=>f h);have i1:at_<s.size:=A;have i2:(at_:Int)<(s.size:Int):=by omega
    have i3:(0:Int)≤(at_:Int):=by omega
    have i4:s[at_]=z:=C;have P:((z.toNat:Int)==48)=false:=by
     rw[B]at u;rw[beq_eq_false_iff_ne];intro h;apply u;have:z=48:=by
      apply UInt8.toNat_inj.1;have Q:(48:UInt8).toNat=48:=rfl;omega
     rw[this]
    have V:decide (6<(q:Int)-(at_:Int))=true:=dh (by have:=F.out;omega);clear a f t u hm;go_wp2_with fail;refine(Z.out b _).mono ?_;rintro e w'⟨rfl,rfl⟩;rw[t4];go_wp2_with(refine ai rfl 270 (.tmp 6) _ rfl g1 (bF ⟨0,at_,2⟩) rfl rfl _ _ K.out cm rfl (dd _) ?_);intro D g k;have v:=af g;have y:Hid (Fr ag w D):=L.out.aw k (fun i I e=>by have O:i=g1:=e;have:=M;unfold Sz at this;omega);clear g k;go_wp2;refine bodyPost_ret (bV _ _ g1 (bF ⟨0,at_,2⟩) _ rfl rfl v.out rfl) rfl ?_;rw[c.out];exact⟨rfl,y.out⟩
   have c:Hid (cR count at_ l=(⟨eT ds,at_,0⟩,at_+ds.length)):=by simp only[Hid];rw[p.out,if_neg a,if_neg f,if_neg t,if_neg u,if_neg hm]
   have m:((count:Int)==8)=false:=by rw[beq_eq_false_iff_ne];have:=a;omega
   have E:((at_:Int)==(s.size:Int))=false:=by rw[beq_eq_false_iff_ne];have:=o.out.1;have G:l.length≠0:=fun h=>f (List.length_eq_zero_iff.1 h);omega
   have H:((q:Int)==(at_:Int))=false:=by rw[beq_eq_false_iff_ne];have:=F.out;have G:ds.length≠0:=fun h=>t (List.length_eq_zero_iff.1 h);omega
   obtain⟨z,A,B,C⟩:=o.out.2 (fun h=>f h);have i1:at_<s.size:=A;have i2:(at_:Int)<(s.size:Int):=by omega
   have i3:(0:Int)≤(at_:Int):=by omega
   have i4:s[at_]=z:=C;have P:((z.toNat:Int)==48)=false:=by
    rw[B]at u;rw[beq_eq_false_iff_ne];intro h;apply u;have:z=48:=by
     apply UInt8.toNat_inj.1;have Q:(48:UInt8).toNat=48:=rfl;omega
    rw[this]
   have V:decide (6<(q:Int)-(at_:Int))=false:=ct (by have:=F.out;omega);clear a f t u hm;go_wp2_with fail;refine(Z.out b _).mono ?_;rintro e w'⟨rfl,rfl⟩;rw[t4];go_wp2_with(refine ai rfl 270 (.tmp 6) _ rfl g1 (bF ⟨eT ds,at_,0⟩) rfl rfl _ _ K.out cm rfl (dd _) ?_);intro D g k;have v:=af g;have y:Hid (Fr ag w D):=L.out.aw k (fun i I e=>by have O:i=g1:=e;have:=M;unfold Sz at this;omega);clear g k;go_wp2;refine bodyPost_ret (bV _ _ g1 (bF ⟨eT ds,at_,0⟩) _ rfl rfl v.out rfl) rfl ?_;rw[c.out];refine⟨?_,y.out⟩;rw[←F.out];rfl
end Go.Proofs.YtphjagkehiklkaaGreatDoor
namespace Go.Proofs.YtphjagkehiklkaaGreatDoor
open Go.RowKit
theorem du.is{T:Nat→Prop}{w:World}:∀V:List Value,du T w (V.map Is)
 |[]=>trivial
 |x::r=>⟨Is.ah x,du.is r⟩
theorem uo:∀(V:List Value)(j:Nat)(w:World),cp (V.map Is) j (V.getD j undef) w
 |[],_,_=>trivial
 |_::_,0,_=>rfl
 |_::r,j+1,w=>uo r j w
theorem oI:∀(V:List Value)(j:Nat)(v:Value)(w:World),j<V.length→cp (V.map Is) j v w→v=V.getD j undef
 |_::_,0,_,_,_,h=>h
 |_::r,j+1,v,w,a,h=>oI r j v w (by simpa using a) h
def Gp(a:Act)(d:Option Tmp)(w:World)(v:Value)(b:Act)(w':World):Prop:=b=a.put d v∧Fr ag w w'
def pw(P:Program)(ops:Array Oper)(Q:Exit→Act→World→Prop)(w:World)(F:(Nat→Value)→Act)(V:List Value):Nat→List Oper→Prop
 |_,[]=>True
 |i,a::r=>(∀u w',Fr ag w w'→(∀j,(_:Region.waitsFor .any ops i j=true:=by kernel_rfl)→cp (V.map Is) j (u j) w')→mT P ops Q a (F u) w' (Gp (F u) a.dst w' (V.getD i undef)))∧pw P ops Q w F V (i+1) r
theorem pw.st{P:Program}{ops:Array Oper}{Q:Exit→Act→World→Prop}{w:World}{F:(Nat→Value)→Act}{V:List Value}{n:Nat}:∀{l:List Oper}{i:Nat},pw P ops Q w F V i l→gY P ops Q ag w F (cp (V.map Is)) [] (fun _=>True) (fun _ _=>false) n i l
 |[],_,_=>trivial
 |_::_,i,h=>⟨fun u w' _ c b _ _ _=>fI (fun _ a⟨e,f⟩=>⟨_,e,f,uo V i a,trivial⟩) (h.1 u w' c (fun j d=>b j d)),pw.st h.2⟩
theorem bE{P:Program}{ops:Array Oper}{Q:Exit→Act→World→Prop}{b:Oper}{a:Act}{w:World}(h:Region.wanted b (yielded ops a.tmps)=false:=by kernel_rfl):mT P ops Q b a w (Gp a b.dst w undef):= .inr ⟨h,rfl,aD⟩
theorem aG{P:Program}{ops:Array Oper}{Q:Exit→Act→World→Prop}{b:Oper}{a:Act}{w:World}{K:Act→World→Prop}(h:b.wp P a w K Q)(hw:Region.wanted b (yielded ops a.tmps)=true:=by kernel_rfl):mT P ops Q b a w K:= .inl ⟨hw,h⟩
theorem z1{α:Type}{n:Nat}{a:α}{l:List α}:(a::l).take (n+1)=a::l.take n:=rfl
theorem z2{α:Type}{l:List α}:l.take 0=[]:=rfl
theorem z3{α β:Type}{f:α→β}{a:α}{l:List α}:(a::l).map f=f a::l.map f:=rfl
theorem z4{α β:Type}{f:α→β}:([]:List α).map f=[]:=rfl
theorem z5{α:Type}{i:Nat}{a:α}{l:List α}:l.toArray.setIfInBounds i a=(l.set i a).toArray:=List.setIfInBounds_toArray ..
theorem z6{α:Type}{a b:α}{l:List α}:(a::l).set 0 b=b::l:=rfl
theorem z7{α:Type}{n:Nat}{a b:α}{l:List α}:(a::l).set (n+1) b=a::l.set n b:=rfl
theorem z8{α:Type}{n:Nat}{a:α}{l:List α}:(a::l).drop (n+1)=l.drop n:=rfl
theorem z9{α:Type}{l:List α}:l.drop 0=l:=rfl
theorem jx{α:Type}{a d:α}{l:List α}:(a::l).getD 0 d=a:=rfl
theorem jy{α:Type}{n:Nat}{a d:α}{l:List α}:(a::l).getD (n+1) d=l.getD n d:=rfl
theorem zU(ds:List (Option Tmp))(V:List Value)(u:Nat→Value)(a:Act)(e:ds.length≤V.length)(h:∀j,j<V.length→u j=V.getD j undef):ay ds 0 u a=ay ds 0 (fun j=>V.getD j undef) a:=by
 have:∀(ds:List (Option Tmp))(k:Nat)(a:Act),k+ds.length≤V.length→ay ds k u a=ay ds k (fun j=>V.getD j undef) a:=by
  intro ds;induction ds with
  |nil=>intro k a _;rfl
  |cons d r c=>
   intro k a b;simp only[List.length_cons]at b;rw[ay,ay,h k (by omega)];exact c (k+1) _ (by omega)
 exact this ds 0 a (by omega)
theorem jS{P:Program}{id:Nat}{Q:Exit→Act→World→Prop}{a:Act}{w:World}{l:List Oper}(n:Nat)(V:List Value)
  (f:pw P l.toArray Q w (fun u=>ay ((l.take n).map (·.dst)) 0 u a) V 0 (l.take n))
  (k:∀w',Fr ag w w'→wpList P l.toArray Q (l.drop n) (ay ((l.take n).map (·.dst)) 0 (fun j=>V.getD j undef) a) w')(i:V.length=n:=by rfl)(hm:P.follows .mixedOrders=true:=by kernel_rfl)(e:oK l.toArray n=true:=by kernel_rfl)(b:fM l.toArray n (fun _ _=>false)=true:=by kernel_rfl):(Code.region id l.toArray true).wp P Q a w:=by
 refine aC n ag (V.map Is) [] (fun _=>True) (fun _ _=>false) hm e b (by simp[gC]) (du.is V) trivial (fun _ _ _ _ h=>h) trivial f.st ?_;intro u w' d c _;rw[zU _ V u a (by rw[i,List.length_map,List.length_take];omega) (fun j g=>oI V j (u j) w' g (c j (by omega)))];exact k w' d
theorem iQ{P:Program}{id:Nat}{Q:Exit→Act→World→Prop}{a:Act}{w:World}{l:List Oper}(n:Nat)(V:List Value)
  (f:pw P l.toArray Q w (fun u=>ay ((l.take n).map (·.dst)) 0 u a) V 0 (l.take n))
  (k:∀w',Fr ag w w'→wpList P l.toArray Q (l.drop n) (ay ((l.take n).map (·.dst)) 0 (fun j=>V.getD j undef) a) w')(i:V.length=n:=by rfl)(e:xR l.toArray n=true:=by kernel_rfl)(b:fM l.toArray n (fun _ _=>false)=true:=by kernel_rfl):(Code.region id l.toArray false).wp P Q a w:=by
 refine gR n ag (V.map Is) [] (fun _=>True) (fun _ _=>false) e b (by simp[gC]) (du.is V) trivial (fun _ _ _ _ h=>h) trivial f.st ?_;intro u w' d c _;rw[zU _ V u a (by rw[i,List.length_map,List.length_take];omega) (fun j g=>oI V j (u j) w' g (c j (by omega)))];exact k w' d
structure Fact where
 p:Value→World→Prop
 st:∀v w w',Fr ag w w'→p v w→p v w'
def iS(x:Value):Fact:=⟨Is x,fun _ _ _ _ h=>h⟩
def kX:Fact:=⟨fun _ _=>True,fun _ _ _ _ _=>trivial⟩
theorem du.fact{w:World}:∀V:List Fact,du ag w (V.map Fact.p)
 |[]=>trivial
 |x::r=>⟨fun v w' a _ f h=>x.st v w' a f h,du.fact r⟩
theorem jq:∀(V:List Fact)(j:Nat),cp (V.map Fact.p) j=(V.getD j kX).p
 |[],_=>rfl
 |_::_,0=>rfl
 |_::r,j+1=>jq r j
def Gn(a:Act)(d:Option Tmp)(w:World)(p:Value→World→Prop)(b:Act)(w':World):Prop:=∃v,b=a.put d v∧Fr ag w w'∧p v w'
def pv(P:Program)(ops:Array Oper)(Q:Exit→Act→World→Prop)(w:World)(F:(Nat→Value)→Act)(V:List Fact):Nat→List Oper→Prop
 |_,[]=>True
 |i,a::r=>(∀u w',Fr ag w w'→(∀j,(_:Region.waitsFor .any ops i j=true:=by kernel_rfl)→(V.getD j kX).p (u j) w')→mT P ops Q a (F u) w' (Gn (F u) a.dst w' (V.getD i kX).p))∧pv P ops Q w F V (i+1) r
theorem pv.st{P:Program}{ops:Array Oper}{Q:Exit→Act→World→Prop}{w:World}{F:(Nat→Value)→Act}{V:List Fact}{n:Nat}:∀{l:List Oper}{i:Nat},pv P ops Q w F V i l→gY P ops Q ag w F (cp (V.map Fact.p)) [] (fun _=>True) (fun _ _=>false) n i l
 |[],_,_=>trivial
 |_::_,i,h=>⟨fun u w' _ b a _ _ _=>fI (fun _ d⟨v,e,f,q⟩=>⟨v,e,f,by rw[jq];exact q,trivial⟩) (h.1 u w' b (fun j c=>by have:=a j c;rw[jq]at this;exact this)),pv.st h.2⟩
theorem jm{P:Program}{ops:Array Oper}{Q:Exit→Act→World→Prop}{b:Oper}{a:Act}{w:World}(h:Region.wanted b (yielded ops a.tmps)=false:=by kernel_rfl):mT P ops Q b a w (Gn a b.dst w (Is undef)):= .inr ⟨h,_,rfl,aD,rfl⟩
theorem yw{P:Program}{id:Nat}{Q:Exit→Act→World→Prop}{a:Act}{w:World}{l:List Oper}(n:Nat)(V:List Fact)
  (f:pv P l.toArray Q w (fun u=>ay ((l.take n).map (·.dst)) 0 u a) V 0 (l.take n))
  (i:∀u w',Fr ag w w'→(∀j,j<n→(V.getD j kX).p (u j) w')→wpList P l.toArray Q (l.drop n) (ay ((l.take n).map (·.dst)) 0 u a) w')
  (hm:P.follows .mixedOrders=true:=by kernel_rfl)(e:oK l.toArray n=true:=by kernel_rfl)(b:fM l.toArray n (fun _ _=>false)=true:=by kernel_rfl):(Code.region id l.toArray true).wp P Q a w:=by
 refine aC n ag (V.map Fact.p) [] (fun _=>True) (fun _ _=>false) hm e b (by simp[gC]) (du.fact V) trivial (fun _ _ _ _ h=>h) trivial f.st ?_;intro u w' d c _;exact i u w' d (fun j g=>by have:=c j g;rw[jq]at this;exact this)
theorem Dh{P:Program}{id:Nat}{Q:Exit→Act→World→Prop}{a:Act}{w:World}{l:List Oper}(n:Nat)(V:List Fact)
  (f:pv P l.toArray Q w (fun u=>ay ((l.take n).map (·.dst)) 0 u a) V 0 (l.take n))
  (i:∀u w',Fr ag w w'→(∀j,j<n→(V.getD j kX).p (u j) w')→wpList P l.toArray Q (l.drop n) (ay ((l.take n).map (·.dst)) 0 u a) w')
  (e:xR l.toArray n=true:=by kernel_rfl)(b:fM l.toArray n (fun _ _=>false)=true:=by kernel_rfl):(Code.region id l.toArray false).wp P Q a w:=by
 refine gR n ag (V.map Fact.p) [] (fun _=>True) (fun _ _=>false) e b (by simp[gC]) (du.fact V) trivial (fun _ _ _ _ h=>h) trivial f.st ?_;intro u w' d c _;exact i u w' d (fun j g=>by have:=c j g;rw[jq]at this;exact this)
end Go.Proofs.YtphjagkehiklkaaGreatDoor
