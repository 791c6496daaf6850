/- Texts. -/
import Derived.Test.YtphjagkehiklkaaGreatDoorWK38
set_option linter.unusedVariables false
set_option linter.unusedSimpArgs false
set_option maxRecDepth 100000
set_option maxHeartbeats 2000000
namespace Go.Proofs.YtphjagkehiklkaaGreatDoor
open Go.RowKit
theorem oU(w:World)(t:TypeId)(hu:Tryz.prog.underlying t=some (.array 32 5))(l r:List UInt8)(a:l.length=32)(b:r.length=32):
  (binOp .eql t (aE l) (aE r)).run Tryz.prog w= .ok (.bool (decide (l=r))) w:=by
 have:=oV w t hu l r a b;unfold aE at*;rw[run_eql_struct,this];rfl
end Go.Proofs.YtphjagkehiklkaaGreatDoor
namespace Go.Proofs.YtphjagkehiklkaaGreatDoor.Lt
open Go.RowKit
def cQ(m n:Nat)(whole:Bool):Nat:=
 if m=n then(if whole=true then 0 else 1)
 else if a:1≤au n∧au n<n then
  (if m≤au n then cQ m (au n) whole+1 else cQ (m-au n) (n-au n) false+1)
 else 0
termination_by n
decreasing_by all_goals omega
theorem jd(m:Nat)(whole:Bool):cQ m m whole=if whole=true then 0 else 1:=by
 rw[cQ,if_pos rfl]
theorem iJ{m n:Nat}(whole:Bool)(b:m≠n)(d:2≤n)(e:n≤1099511627776)(hm:m≤au n):cQ m n whole=cQ m (au n) whole+1:=by
 obtain⟨a,_,c⟩:=aX n d e;rw[cQ,if_neg b,dif_pos ⟨c,a⟩,if_pos hm]
theorem gQ{m n:Nat}(whole:Bool)(b:m≠n)(d:2≤n)(e:n≤1099511627776)(hm:¬m≤au n):cQ m n whole=cQ (m-au n) (n-au n) false+1:=by
 obtain⟨a,_,c⟩:=aX n d e;rw[cQ,if_neg b,dif_pos ⟨c,a⟩,if_neg hm]
theorem nA(n:Nat):∀m whole,1≤m→m≤n→n≤1099511627776→cQ m n whole≤n:=by
 induction n using Nat.strongRecOn with
 |_ n d=>
  intro m whole f g b;by_cases e:m=n;·subst e;rw[jd];split<;>omega
  ·obtain⟨a,_,c⟩:=aX n (by omega) b;by_cases hm:m≤au n;·rw[iJ whole e (by omega) b hm];have:=d (au n) a m whole f hm (by omega);omega
   ·rw[gQ whole e (by omega) b hm];have:=d (n-au n) (by omega) (m-au n) false (by omega) (by omega) (by omega);omega
def ef(a:List UInt8)(m n:Nat)(whole:Bool)(path:List (List UInt8)):List UInt8×List UInt8:=
  if m=n then(if whole=true then(a,a)else(path.headD [],path.headD []))
  else if b:1≤au n∧au n<n then
    (if m≤au n then((ef a m (au n) whole (path.take (path.length-1))).1,bU (ef a m (au n) whole (path.take (path.length-1))).2 (path.getD (path.length-1) []))
     else(bU (path.getD (path.length-1) []) (ef a (m-au n) (n-au n) false (path.take (path.length-1))).1,bU (path.getD (path.length-1) []) (ef a (m-au n) (n-au n) false (path.take (path.length-1))).2))
  else([],[])
termination_by n
decreasing_by all_goals omega
theorem uj(a:List UInt8)(m:Nat)(whole:Bool)(path:List (List UInt8)):ef a m m whole path=if whole=true then(a,a)else(path.headD [],path.headD []):=by
 rw[ef,if_pos rfl]
theorem p9(b:List UInt8){m n:Nat}(whole:Bool)(path:List (List UInt8)){p:Nat}(g:path.length=p+1)(d:m≠n)(e:2≤n)(f:n≤1099511627776)(hm:m≤au n):
  ef b m n whole path=((ef b m (au n) whole (path.take p)).1,bU (ef b m (au n) whole (path.take p)).2 (path.getD p [])):=by
 obtain⟨a,_,c⟩:=aX n e f;rw[ef,if_neg d,dif_pos ⟨c,a⟩,if_pos hm,g,Nat.add_sub_cancel]
theorem oG(b:List UInt8){m n:Nat}(whole:Bool)(path:List (List UInt8)){p:Nat}(g:path.length=p+1)(d:m≠n)(e:2≤n)(f:n≤1099511627776)(hm:¬m≤au n):
  ef b m n whole path=(bU (path.getD p []) (ef b (m-au n) (n-au n) false (path.take p)).1,bU (path.getD p []) (ef b (m-au n) (n-au n) false (path.take p)).2):=by
 obtain⟨a,_,c⟩:=aX n e f;rw[ef,if_neg d,dif_pos ⟨c,a⟩,if_neg hm,g,Nat.add_sub_cancel]
theorem kF(n:Nat):∀(b:List UInt8)m whole path,1≤m→m≤n→n≤1099511627776→b.length=32→path.length=cQ m n whole→(∀d∈path,d.length=32)→(ef b m n whole path).1.length=32∧(ef b m n whole path).2.length=32:=by
 induction n using Nat.strongRecOn with
 |_ n l=>
  intro b m whole path i k g h f he;by_cases e:m=n
  ·subst e;rw[uj];rw[jd]at f;cases whole
   ·match path,f,he with
    |[x],_,he=>exact⟨he x (by simp),he x (by simp)⟩
    |[],f,_=>simp at f
    |_::_::_,f,_=>simp at f
   ·exact⟨h,h⟩
  ·obtain⟨a,_,c⟩:=aX n (by omega) g;by_cases hm:m≤au n;·rw[iJ whole e (by omega) g hm]at f;rw[p9 b whole path f e (by omega) g hm];have:=l (au n) a b m whole (path.take (cQ m (au n) whole)) i hm (by omega) h (by rw[List.length_take,f];omega) (fun d j=>he d (List.mem_of_mem_take j));exact⟨this.1,cJ _ _⟩
   ·rw[gQ whole e (by omega) g hm]at f;rw[oG b whole path f e (by omega) g hm];exact⟨cJ _ _,cJ _ _⟩
theorem oq(n:Int)(whole:Bool)(w:World):Calls Tryz.prog 90 #[.int .i64 0, .int .i64 n, .bool whole] w (aY w (.int .i64 0)):=by
 go_enter Tryz.func90,Tryz.ntmps90;go_wp2;go_ret;exact⟨rfl,rfl⟩
theorem pD(m:Nat)(a:1≤m)(whole:Bool)(w:World):Calls Tryz.prog 90 #[.int .i64 m, .int .i64 m, .bool whole] w (aY w (.int .i64 (cQ m m whole:Nat))):=by
 rw[jd];have t0:((m:Int)==0)=false:=by rw[beq_eq_false_iff_ne];omega
 cases whole;·go_enter Tryz.func90,Tryz.ntmps90;go_wp2;go_ret;exact⟨rfl,rfl⟩
 ·go_enter Tryz.func90,Tryz.ntmps90;go_wp2;go_ret;exact⟨rfl,rfl⟩
theorem j8(n:Nat):∀(m:Nat)(whole:Bool)(w:World),1≤m→m≤n→n≤1048576→Calls Tryz.prog 90 #[.int .i64 m, .int .i64 n, .bool whole] w (aY w (.int .i64 (cQ m n whole:Nat))):=by
 induction n using Nat.strongRecOn with
 |_ n j=>
  intro m whole w i f r;by_cases e:m=n;·subst e;exact pD m i whole w
  ·obtain⟨q,_,s⟩:=aX n (by omega) (by omega);have p:=af (fun w=>fV n w (by omega) (by omega));have t0:((m:Int)==0)=false:=by rw[beq_eq_false_iff_ne];omega
   have t1:((m:Int)==(n:Int))=false:=by rw[beq_eq_false_iff_ne];omega
   by_cases hm:m≤au n
   ·have c:=iJ whole e (by omega) (by omega) hm;have hle:=nA n m whole i f (by omega);have h:=af (fun w=>j (au n) q m whole w i hm (by omega));rw[c]at hle⊢;clear c j;generalize cQ m (au n) whole=E at*;generalize au n=k at*;have t2:decide ((m:Int)≤(k:Int))=true:=dh (by omega);obtain⟨b,a⟩:∃b:Nat,b=E+1:=⟨_,rfl⟩;rw[←a]at hle⊢;have s1:(E:Int)+1=(b:Int):=by omega
    clear a;go_enter Tryz.func90,Tryz.ntmps90;go_wp2_with fail;refine(p.out _).mono ?_;rintro e w1⟨rfl,rfl⟩;go_wp2_with fail;refine(h.out _).mono ?_;rintro e w1⟨rfl,rfl⟩;go_wp2;go_ret;exact⟨rfl,rfl⟩
   ·have c:=gQ whole e (by omega) (by omega) hm;have hle:=nA n m whole i f (by omega);have h:=af (fun w=>j (n-au n) (by omega) (m-au n) false w (by omega) (by omega) (by omega));rw[c]at hle⊢;clear c j;generalize cQ (m-au n) (n-au n) false=E at*;generalize au n=k at*;have t2:decide ((m:Int)≤(k:Int))=false:=ct (by omega);obtain⟨b,a⟩:∃b:Nat,b=E+1:=⟨_,rfl⟩;rw[←a]at hle⊢;have s1:(E:Int)+1=(b:Int):=by omega
    clear a;obtain⟨l,d⟩:∃l:Nat,l=m-k:=⟨_,rfl⟩;obtain⟨o,g⟩:∃o:Nat,o=n-k:=⟨_,rfl⟩;rw[←d,←g]at h;have s2:(m:Int)-(k:Int)=(l:Int):=by omega
    have t:(n:Int)-(k:Int)=(o:Int):=by omega
    have b1:l≤1048576:=by omega
    have b2:o≤1048576:=by omega
    clear d g;go_enter Tryz.func90,Tryz.ntmps90;go_wp2_with fail;refine(p.out _).mono ?_;rintro e w1⟨rfl,rfl⟩;go_wp2_with fail;refine(h.out _).mono ?_;rintro e w1⟨rfl,rfl⟩;go_wp2;go_ret;exact⟨rfl,rfl⟩
def ev(ds:List (List UInt8))(m:Nat)(whole:Bool):List (List UInt8):=
 if m=ds.length then(if whole=true then[]else[bQ ds])
 else if a:1≤au ds.length∧au ds.length<ds.length then
  (if m≤au ds.length then ev (ds.take (au ds.length)) m whole++[bQ (ds.drop (au ds.length))]else ev (ds.drop (au ds.length)) (m-au ds.length) false++[bQ (ds.take (au ds.length))])
 else[]
termination_by ds.length
decreasing_by
 ·simp only[List.length_take];omega
 ·simp only[List.length_drop];omega
theorem oH(ds:List (List UInt8))(m:Nat)(whole:Bool)(a:ds.length=m):ev ds m whole=if whole=true then[]else[bQ ds]:=by
 rw[ev,if_pos a.symm]
theorem nz(ds:List (List UInt8))(m n:Nat)(whole:Bool)(e:ds.length=n)(b:m≠n)(d:2≤n)(f:n≤1099511627776)(hm:m≤au n):ev ds m whole=ev (ds.take (au n)) m whole++[bQ (ds.drop (au n))]:=by
 obtain⟨a,_,c⟩:=aX n d f;rw[ev,e,if_neg b,dif_pos ⟨c,a⟩,if_pos hm]
theorem ma(ds:List (List UInt8))(m n:Nat)(whole:Bool)(e:ds.length=n)(b:m≠n)(d:2≤n)(f:n≤1099511627776)(hm:¬m≤au n):ev ds m whole=ev (ds.drop (au n)) (m-au n) false++[bQ (ds.take (au n))]:=by
 obtain⟨a,_,c⟩:=aX n d f;rw[ev,e,if_neg b,dif_pos ⟨c,a⟩,if_neg hm]
theorem kG(n:Nat):∀(ds:List (List UInt8))(m:Nat)(whole:Bool),ds.length=n→1≤m→m≤n→n≤1048576→(ev ds m whole).length=cQ m n whole:=by
 induction n using Nat.strongRecOn with
 |_ n f=>
  intro ds m whole d g h i;by_cases e:m=n;·subst e;rw[oH ds m whole d,jd];cases whole<;>rfl
  ·obtain⟨a,b,c⟩:=aX n (by omega) (by omega);by_cases hm:m≤au n;·rw[nz ds m n whole d e (by omega) (by omega) hm,iJ whole e (by omega) (by omega) hm,bh,List.length_singleton,f (au n) a _ m whole (by rw[List.length_take,d];omega) g hm (by omega)]
   ·rw[ma ds m n whole d e (by omega) (by omega) hm,gQ whole e (by omega) (by omega) hm,bh,List.length_singleton,f (n-au n) (by omega) _ (m-au n) false (by rw[List.length_drop,d]) (by omega) (by omega) (by omega)]
theorem mz:∀(k n m:Nat)(whole:Bool),1≤m→m≤n→n≤2^k→n≤1048576→cQ m n whole≤k+1
 |0,n,m,whole,f,d,h,_=>by
  obtain rfl:m=n:=by simp at h;omega
  rw[jd];split<;>omega
 |k+1,n,m,whole,f,d,h,i=>by
  by_cases e:m=n;·subst e;rw[jd];split<;>omega
  ·obtain⟨a,b,c⟩:=aX n (by omega) (by omega);have g:=uE n k (by omega) (by omega) h;by_cases hm:m≤au n;·rw[iJ whole e (by omega) (by omega) hm];have:=mz k (au n) m whole f hm g (by omega);omega
   ·rw[gQ whole e (by omega) (by omega) hm];have:=mz k (n-au n) (m-au n) false (by omega) (by omega) (by omega) (by omega);omega
theorem Bj(n:Nat):∀(ds:List (List UInt8))(m:Nat)(whole:Bool),ds.length=n→1≤m→m≤n→n≤1048576→(∀d∈ds,d.length=32)→∀d∈ev ds m whole,d.length=32:=by
 induction n using Nat.strongRecOn with
 |_ n k=>
  intro ds m whole g j l q he d f;by_cases e:m=n
  ·subst e;rw[oH ds m whole g]at f;cases whole;·rw[if_neg (by decide)]at f;rw[List.mem_singleton.1 f];exact de m _ g j (by omega) he
   ·rw[if_pos rfl]at f;cases f
  ·obtain⟨a,b,c⟩:=aX n (by omega) (by omega);have o:(bQ (ds.drop (au n))).length=32:=de (n-au n) _ (by rw[List.length_drop,g]) (by omega) (by omega) (fun x i=>he x (List.mem_of_mem_drop i));have p:(bQ (ds.take (au n))).length=32:=de (au n) _ (by rw[List.length_take,g];omega) (by omega) (by omega) (fun x i=>he x (List.mem_of_mem_take i));by_cases hm:m≤au n
   ·rw[nz ds m n whole g e (by omega) (by omega) hm]at f;rcases List.mem_append.1 f with h|h;·exact k (au n) a _ m whole (by rw[List.length_take,g];omega) j hm (by omega) (fun x i=>he x (List.mem_of_mem_take i)) d h
    ·rw[List.mem_singleton.1 h];exact o
   ·rw[ma ds m n whole g e (by omega) (by omega) hm]at f;rcases List.mem_append.1 f with h|h;·exact k (n-au n) (by omega) _ _ false (by rw[List.length_drop,g]) (by omega) (by omega) (by omega) (fun x i=>he x (List.mem_of_mem_drop i)) d h
    ·rw[List.mem_singleton.1 h];exact p
theorem vo{α:Type}(X:List α)(a:α){p:Nat}(h:X.length=p):(X++[a]).take p=X:=by
 rw[←h,List.take_append_of_le_length (Nat.le_refl _),List.take_length]
theorem ux{α:Type}(X:List α)(a d:α){p:Nat}(h:X.length=p):(X++[a]).getD p d=a:=by
 rw[←h,List.getD_eq_getElem?_getD,List.getElem?_append_right (Nat.le_refl _),Nat.sub_self];rfl
theorem uD{m n:Nat}(hm:au n<m)(f:m≤n)(d:2≤n)(g:n≤1099511627776):au m=au n:=by
 obtain⟨a,b,c⟩:=aX n d g;have e:au n=2^(Lib.bitLen (n-1)-1):=rfl;rw[e]at hm a b c⊢;exact(rL m _ (by omega) hm (by omega)).symm
theorem Bh(n:Nat):∀(ds:List (List UInt8))(m:Nat)(whole:Bool)(d:List UInt8),ds.length=n→1≤m→m≤n→n≤1048576→(whole=true→d=bQ (ds.take m))→
  ef d m n whole (ev ds m whole)=(bQ (ds.take m),bQ ds):=by
 induction n using Nat.strongRecOn with
 |_ n r=>
  intro ds m whole d f q k t l;by_cases e:m=n
  ·subst e;rw[oH ds m whole f,uj];have s:ds.take m=ds:=by rw[←f,List.take_length]
   rw[s]at l⊢;cases whole;·rfl
   ·rw[l rfl];rfl
  ·obtain⟨a,b,c⟩:=aX n (by omega) (by omega);by_cases hm:m≤au n
   ·have i:(ds.take (au n)).length=au n:=by rw[List.length_take,f];omega
    have g:=kG (au n) (ds.take (au n)) m whole i q hm (by omega);rw[nz ds m n whole f e (by omega) (by omega) hm];rw[p9 d whole _ (p:=cQ m (au n) whole) (by rw[bh,g];rfl) e (by omega) (by omega) hm,vo _ _ g,ux _ _ _ g];have:=r (au n) a (ds.take (au n)) m whole d i q hm (by omega) (by rw[List.take_take,Nat.min_eq_left hm];exact l);rw[this,List.take_take,Nat.min_eq_left hm,iC ds n f (by omega) (by omega)]
   ·have i:(ds.drop (au n)).length=n-au n:=by rw[List.length_drop,f]
    have g:=kG (n-au n) (ds.drop (au n)) (m-au n) false i (by omega) (by omega) (by omega);rw[ma ds m n whole f e (by omega) (by omega) hm];rw[oG d whole _ (p:=cQ (m-au n) (n-au n) false) (by rw[bh,g];rfl) e (by omega) (by omega) hm,vo _ _ g,ux _ _ _ g];have:=r (n-au n) (by omega) (ds.drop (au n)) (m-au n) false d i (by omega) (by omega) (by omega) (fun h=>by cases h);have j:(ds.take m).length=m:=by rw[List.length_take,f];omega
    have o:=iC (ds.take m) m j (by omega) (by omega);rw[uD (by omega) k (by omega) (by omega),List.take_take,Nat.min_eq_left (by omega),List.drop_take]at o;rw[this,←o,iC ds n f (by omega) (by omega)]
theorem _root_.Go.Proofs.YtphjagkehiklkaaGreatDoor.bW.JY{e:TypeId}{size:Nat}{w w1 w2:World}{cells:Array Value}{xs:List Value}(h:Fr ag w w1)(b:dF w1 w2 e cells)(a:cells.toList=xs)(c:xs.length=1*size):bW e size w (.slice none 0 0) w2 (.slice (some ⟨w1.heap.size,0,none⟩) 1 1) 1 xs:=by
 have f:cells.size=1*size:=by rw[←c,←a,Array.length_toList]
 refine⟨⟨c, .inr ⟨w1.heap.size,1,cells,rfl,Nat.zero_le _,b.aH,Nat.le_refl _,by decide,f,?_⟩⟩,(h.trans b.fr).bP,fun k d=>?_⟩;·rw[a,List.take_of_length_le (by omega)]
 ·simp only[Value.ownBlock,Option.some.injEq]at d;have:=h.size;omega
def Gi(n:Nat):Prop:=∀(w:World)(p:Nat)(A:Option Addr)(N c:Nat)(mb:Option Nat)(ds:List (List UInt8))(C:Nat→Nat→Prop)(f k m:Nat)(whole:Bool),ec w p A N c mb ds C→Full C N→N≤1048576→bB w→1≤m→m≤n→f+n≤N→n≤2^k→2^k∣f→
 Calls Tryz.prog 136 #[.pointer (some ⟨p,0,none⟩), .int .i64 m, .int .i64 f, .int .i64 n, .bool whole] w (kV w (ev ((ds.drop f).take n) m whole).length (ev ((ds.drop f).take n) m whole))
theorem Bl(p f m:Nat)(w:World)(ds:List (List UInt8))(hm:ds.length=m):
  Calls Tryz.prog 136 #[.pointer (some ⟨p,0,none⟩), .int .i64 m, .int .i64 f, .int .i64 m, .bool true] w (kV w (ev ds m true).length (ev ds m true)):=by
 rw[oH _ _ _ hm,if_pos rfl];clear hm;go_enter Tryz.func136,Tryz.ntmps136;go_wp2;go_ret;exact⟨_,rfl,bW.start ⟨rfl, .inl ⟨rfl,rfl⟩⟩⟩
theorem EK(w:World)(p:Nat)(A:Option Addr)(N c:Nat)(mb:Option Nat)(ds:List (List UInt8))(C:Nat→Nat→Prop)(f k m:Nat)(n:ec w p A N c mb ds C)(hF:Full C N)(G:N≤1048576)(x:bB w)(F:1≤m)(r:f+m≤N)(j:m≤2^k)(h:2^k∣f):
  Calls Tryz.prog 136 #[.pointer (some ⟨p,0,none⟩), .int .i64 m, .int .i64 f, .int .i64 m, .bool false] w (kV w (ev ((ds.drop f).take m) m false).length (ev ((ds.drop f).take m) m false)):=by
 have hlen:((ds.drop f).take m).length=m:=by rw[List.length_take,List.length_drop,n.len];omega
 rw[oH _ _ _ hlen,if_neg (by decide)];obtain⟨i0,s,t,b,I⟩:=info_parts pz;have g1:Hid (¬1*i0.size>2^24):=by simp only[Hid];rw[b];omega
 have g2:Hid (¬1*i0.size=0):=by simp only[Hid];rw[b];omega
 have o:Hid (∀w',Fr ag w w'→Calls Tryz.prog 110 #[.pointer (some ⟨p,0,none⟩), .int .i64 f, .int .i64 m] w' (aJ w' (aE (bQ ((ds.drop f).take m))))):=
  fun w' y=>mQ m (by omega) w' p A N c mb ds C f k (n.ar y) hF G (x.ar y) (by omega) (by omega) j h;have z:(bQ ((ds.drop f).take m)).length=32:=de m _ hlen (by omega) (by omega) (fun d H=>n.each d (List.mem_of_mem_drop (List.mem_of_mem_take H)));generalize bQ ((ds.drop f).take m)=a at*;have D:Hid (Instr.fill (fun i=>some (i*32,32)) ((Array.range (1*32)).map (aI.cells[· %aI.cells.size]!)) [(0, .agg (ao a).toArray)]=some (ao a).toArray):=kO _ _ (by simp[ao,z]) (by simp);have u:Hid ((ao a).toArray.toList=[a].flatMap ao∧([a].flatMap ao).length=1*32):=⟨by simp,by simp[ao,z]⟩;have q:Hid ([a].length=1):=rfl;unfold aE at o;simp only[show∀l:List UInt8,l.map aS=ao l from fun _=>rfl]at o;generalize[a].length=v at*;generalize ao a=g at*;have g3:Hid (Instr.fill (fun i=>some (i*i0.size,i0.size)) ((Array.range (1*i0.size)).map (aI.cells[· %aI.cells.size]!)) [(0, .agg g.toArray)]=some g.toArray):=by simp only[Hid];rw[b];exact D.out
 have f4:f≤1048576:=by omega
 have m4:m≤1048576:=by omega
 clear n hF x r j h hlen F;go_enter Tryz.func136,Tryz.ntmps136;go_wp2_with fail;refine(o.out _ aD).mono ?_;rintro e w1⟨rfl,f1⟩;have B:=af f1;clear f1;go_wp2_with(refine wpList_buildSlice rfl 31 38 1 #[(0, .tmp 26)] rfl g.toArray i0 aI Tryz.underlying31 s t g1.out g2.out (by simp only[List.map_toArray,List.map_cons,List.map_nil];exact g3.out) (bj.go ?hold));unfold bj;have E:Hid (bW 38 32 w (.slice none 0 0) (w1.alloc (.cells g.toArray 38)) (.slice (some ⟨w1.heap.size,0,none⟩) 1 1) v ([a].flatMap ao)):=by
  have:=bW.JY B.out (dF.alloc w1 38 g.toArray) u.out.1 u.out.2;simp only[Hid];rw[show v=1 from q.out];exact this
 generalize w1.alloc (.cells g.toArray 38)=w2 at*;generalize w1.heap.size=J at*;go_wp2;go_ret;exact⟨_,rfl,E.out⟩
theorem EJ(n:Nat)(ae:∀j,j<n→Gi j)(w:World)(p:Nat)(A:Option Addr)(N c:Nat)(mb:Option Nat)(ds:List (List UInt8))(C:Nat→Nat→Prop)(f k m:Nat)(whole:Bool)(r:ec w p A N c mb ds C)(hF:Full C N)(ad:N≤1048576)(V:bB w)(L:1≤m)(aa:m<n)(Y:f+n≤N)(ab:n≤2^k)(O:2^k∣f):
  Calls Tryz.prog 136 #[.pointer (some ⟨p,0,none⟩), .int .i64 m, .int .i64 f, .int .i64 n, .bool whole] w (kV w (ev ((ds.drop f).take n) m whole).length (ev ((ds.drop f).take n) m whole)):=by
 obtain⟨i0,G,H,t,ac⟩:=info_parts pz;obtain⟨a,b,X⟩:=aX n (by omega) (by omega);obtain⟨lv,E⟩:∃lv,au n=2^lv:=⟨_,rfl⟩;have aq:lv≤k:=mj (by omega);have S:2^lv∣f:=lY aq O;have hlen:((ds.drop f).take n).length=n:=by rw[List.length_take,List.length_drop,r.len];omega
 have ai:=af (fun w=>fV n w (by omega) (by omega));have T:=fun h=>nz _ m n whole hlen (by omega) (by omega) (by omega) h;have U:=fun h=>ma _ m n whole hlen (by omega) (by omega) (by omega) h;obtain⟨P,an⟩:∃P,P=au n:=⟨_,rfl⟩;rw[←an]at ai a b X E T U;rw[mD _ (by omega),List.drop_take,List.drop_drop]at T U;obtain⟨f2,D⟩:∃f2:Nat,f2=f+P:=⟨_,rfl⟩;obtain⟨o,Q⟩:∃o:Nat,o=n-P:=⟨_,rfl⟩;rw[←D,←Q]at T U;have s1:(f:Int)+(P:Int)=(f2:Int):=by omega
 have s2:(n:Int)-(P:Int)=(o:Int):=by omega
 have f4:f≤1048576:=by omega
 have f24:f2≤1048576:=by omega
 have n4:n≤1048576:=by omega
 have aA:o≤1048576:=by omega
 have aB:P≤1048576:=by omega
 have m4:m≤1048576:=by omega
 have t1:((m:Int)==(n:Int))=false:=by rw[beq_eq_false_iff_ne];omega
 have t2:¬m=n:=by omega
 have g1:Hid (¬1*i0.size>2^24):=by simp only[Hid];rw[t];omega
 have g2:Hid (¬1*i0.size=0):=by simp only[Hid];rw[t];omega
 have I:∀(l:List (List UInt8))(q j:Nat)(x:Bool),l.length=q→q≤1048576→1≤j→j≤q→(ev l j x).length≤21:=fun l q j x h av L aw=>by
  rw[kG q l j x h L aw av];exact mz 20 q j x L aw av av
 by_cases s:m≤P
 ·rw[T s];have ah:Hid (∀w',Fr ag w w'→Calls Tryz.prog 136 #[.pointer (some ⟨p,0,none⟩), .int .i64 m, .int .i64 f, .int .i64 P, .bool whole] w' (kV w' (ev ((ds.drop f).take P) m whole).length (ev ((ds.drop f).take P) m whole))):=
   fun w' B=>ae P a w' p A N c mb ds C f lv m whole (r.ar B) hF ad (V.ar B) L s (by omega) (by omega) S;have J:Hid (∀w',Fr ag w w'→Calls Tryz.prog 110 #[.pointer (some ⟨p,0,none⟩), .int .i64 f2, .int .i64 o] w' (aJ w' (aE (bQ ((ds.drop f2).take o))))):=
   fun w' B=>mQ o (by omega) w' p A N c mb ds C f2 lv (r.ar B) hF ad (V.ar B) (by omega) (by omega) (by omega) (by rw[D,E];exact(Nat.dvd_add_right S).2 (Nat.dvd_refl _));have R:(bQ ((ds.drop f2).take o)).length=32:=de o _ (by rw[List.length_take,List.length_drop,r.len];omega) (by omega) (by omega) (fun d ap=>r.each d (List.mem_of_mem_drop (List.mem_of_mem_take ap)));have az:=I ((ds.drop f).take P) P m whole (by rw[List.length_take,List.length_drop,r.len];omega) (by omega) L s;have ay:(m:Int)≤(P:Int):=by omega
  generalize ev ((ds.drop f).take P) m whole=PL at*;generalize bQ ((ds.drop f2).take o)=g at*;have aj:Hid (Instr.fill (fun i=>some (i*32,32)) ((Array.range (1*32)).map (aI.cells[· %aI.cells.size]!)) [(0, .agg (ao g).toArray)]=some (ao g).toArray):=kO _ _ (by simp[ao,R]) (by simp);have ak:Hid ((ao g).toArray.size=1*32):=by simp[Hid,ao,R]
  have al:Hid (∀u∈(ao g).toArray.toList,u.oneCell'=true):=by
   intro u hu;exact gH _ u (by simpa[ao]using hu)
  have v:Hid ((PL++[g]).flatMap ao=PL.flatMap ao++ao g∧(PL++[g]).length=PL.length+1):=⟨by rw[List.flatMap_append,List.flatMap_singleton],by simp⟩;unfold aE at J;simp only[show∀l:List UInt8,l.map aS=ao l from fun _=>rfl]at J;generalize ao g=F at*;have g3:Hid (Instr.fill (fun i=>some (i*i0.size,i0.size)) ((Array.range (1*i0.size)).map (aI.cells[· %aI.cells.size]!)) [(0, .agg F.toArray)]=some F.toArray):=by simp only[Hid];rw[t];exact aj.out
  clear r hF V an D Q Y ab O S aq hlen ae a b X E T U R I aa L;go_enter Tryz.func136,Tryz.ntmps136;go_wp2_with fail;refine(ai.out _).mono ?_;rintro e w'⟨rfl,rfl⟩;go_wp2_with fail;refine(ah.out _ aD).mono ?_;rintro e w1⟨v1,rfl,M⟩;have K:=af M;obtain⟨ax,n1,X,rfl,H1,_⟩:=aU M.own;clear M;go_wp2_with fail;refine(J.out _ K.out.ar).mono ?_;rintro e w2⟨rfl,y⟩;have W:=af (K.out.behind y);clear y K;go_wp2_with(refine wpList_buildSlice rfl 31 38 1 #[(0, .tmp 46)] rfl F.toArray i0 aI Tryz.underlying31 G H g1.out g2.out (by simp only[List.map_toArray,List.map_cons,List.map_nil];exact g3.out) (bj.go ?hold));unfold bj;refine da _ rfl _ _ 31 rfl 38 i0 aI 32 32 Tryz.underlying31 G H t ac rfl (by omega) _ _ _ rfl W.out.own 1 F.toArray _ rfl rfl ak.out al.out (by omega) (by omega) ?_;intro v3 w3 z;have am:Hid (bW 38 32 w (.slice none 0 0) w3 v3 (PL++[g]).length ((PL++[g]).flatMap ao)):=by
   have h:=W.out.trans z;simp only[Hid];rw[v.out.1,v.out.2];exact h
  clear z;go_wp2;go_ret;exact⟨_,rfl,am.out⟩
 ·rw[U s];obtain⟨m2,Z⟩:∃m2:Nat,m2=m-P:=⟨_,rfl⟩;rw[←Z];have aF:(m:Int)-(P:Int)=(m2:Int):=by omega
  have m24:m2≤1048576:=by omega
  have ah:Hid (∀w',Fr ag w w'→Calls Tryz.prog 136 #[.pointer (some ⟨p,0,none⟩), .int .i64 m2, .int .i64 f2, .int .i64 o, .bool false] w' (kV w' (ev ((ds.drop f2).take o) m2 false).length (ev ((ds.drop f2).take o) m2 false))):=
   fun w' B=>ae o (by omega) w' p A N c mb ds C f2 lv m2 false (r.ar B) hF ad (V.ar B) (by omega) (by omega) (by omega) (by omega) (by rw[D,E];exact(Nat.dvd_add_right S).2 (Nat.dvd_refl _));have J:Hid (∀w',Fr ag w w'→Calls Tryz.prog 110 #[.pointer (some ⟨p,0,none⟩), .int .i64 f, .int .i64 P] w' (aJ w' (aE (bQ ((ds.drop f).take P))))):=
   fun w' B=>mQ P (by omega) w' p A N c mb ds C f lv (r.ar B) hF ad (V.ar B) (by omega) (by omega) (by omega) S;have R:(bQ ((ds.drop f).take P)).length=32:=de P _ (by rw[List.length_take,List.length_drop,r.len];omega) (by omega) (by omega) (fun d ap=>r.each d (List.mem_of_mem_drop (List.mem_of_mem_take ap)));have az:=I ((ds.drop f2).take o) o m2 false (by rw[List.length_take,List.length_drop,r.len];omega) (by omega) (by omega) (by omega);have ay:decide ((m:Int)≤(P:Int))=false:=ct (by omega);have aC:¬m≤P:=s;generalize ev ((ds.drop f2).take o) m2 false=PL at*;generalize bQ ((ds.drop f).take P)=g at*;have aj:Hid (Instr.fill (fun i=>some (i*32,32)) ((Array.range (1*32)).map (aI.cells[· %aI.cells.size]!)) [(0, .agg (ao g).toArray)]=some (ao g).toArray):=kO _ _ (by simp[ao,R]) (by simp);have ak:Hid ((ao g).toArray.size=1*32):=by simp[Hid,ao,R]
  have al:Hid (∀u∈(ao g).toArray.toList,u.oneCell'=true):=by
   intro u hu;exact gH _ u (by simpa[ao]using hu)
  have v:Hid ((PL++[g]).flatMap ao=PL.flatMap ao++ao g∧(PL++[g]).length=PL.length+1):=⟨by rw[List.flatMap_append,List.flatMap_singleton],by simp⟩;unfold aE at J;simp only[show∀l:List UInt8,l.map aS=ao l from fun _=>rfl]at J;generalize ao g=F at*;have g3:Hid (Instr.fill (fun i=>some (i*i0.size,i0.size)) ((Array.range (1*i0.size)).map (aI.cells[· %aI.cells.size]!)) [(0, .agg F.toArray)]=some F.toArray):=by simp only[Hid];rw[t];exact aj.out
  clear r hF V an D Q Y ab O S aq hlen ae a b X E T U R I Z aa L s;go_enter Tryz.func136,Tryz.ntmps136;go_wp2_with fail;refine(ai.out _).mono ?_;rintro e w'⟨rfl,rfl⟩;go_wp2_with fail;refine(ah.out _ aD).mono ?_;rintro e w1⟨v1,rfl,M⟩;have K:=af M;obtain⟨ax,n1,X,rfl,H1,_⟩:=aU M.own;clear M;go_wp2_with fail;refine(J.out _ K.out.ar).mono ?_;rintro e w2⟨rfl,y⟩;have W:=af (K.out.behind y);clear y K;go_wp2_with(refine wpList_buildSlice rfl 31 38 1 #[(0, .tmp 63)] rfl F.toArray i0 aI Tryz.underlying31 G H g1.out g2.out (by simp only[List.map_toArray,List.map_cons,List.map_nil];exact g3.out) (bj.go ?zA));unfold bj;refine da _ rfl _ _ 31 rfl 38 i0 aI 32 32 Tryz.underlying31 G H t ac rfl (by omega) _ _ _ rfl W.out.own 1 F.toArray _ rfl rfl ak.out al.out (by omega) (by omega) ?_;intro v3 w3 z;have am:Hid (bW 38 32 w (.slice none 0 0) w3 v3 (PL++[g]).length ((PL++[g]).flatMap ao)):=by
   have h:=W.out.trans z;simp only[Hid];rw[v.out.1,v.out.2];exact h
  clear z;go_wp2;go_ret;exact⟨_,rfl,am.out⟩
theorem vI(n:Nat):Gi n:=by
 induction n using Nat.strongRecOn with
 |_ n o=>
  intro w p A N c mb ds C f k m whole e hF i j g l b d a;rcases Nat.lt_or_ge m n with h|h;·exact EJ n o w p A N c mb ds C f k m whole e hF i j g h b d a
  ·obtain rfl:m=n:=by omega
   cases whole;·exact EK w p A N c mb ds C f k m e hF i j g b d a
   ·exact Bl p f m w _ (by rw[List.length_take,List.length_drop,e.len];omega)
def lx(ds:List (List UInt8))(m n:Int):List (List UInt8)×Int:=
 if 0≤n∧n≤ds.length then(if 0≤m∧m≤n then(if m=0 then([],0)else(ev (ds.take n.toNat) m.toNat true,0))else([],2))else([],2)
theorem Bk(ds:List (List UInt8))(n:Nat)(h:n≤ds.length):lx ds 0 n=([],0):=by
 unfold lx;rw[if_pos (by omega),if_pos (by omega),if_pos rfl]
theorem wL(ds:List (List UInt8))(m n:Nat)(h:n≤ds.length)(a:1≤m)(hm:m≤n):lx ds m n=(ev (ds.take n) m true,0):=by
 unfold lx;rw[if_pos (by omega),if_pos (by omega),if_neg (by omega),Int.toNat_natCast,Int.toNat_natCast]
theorem wK(ds:List (List UInt8))(m n:Int)(h:¬(0≤n∧n≤ds.length)∨¬(0≤m∧m≤n)):lx ds m n=([],2):=by
 unfold lx;split;·rw[if_neg (by omega)]
 ·rfl
theorem yC(E w:World)(p:Nat)(ds:List (List UInt8))(m k:Int)(z:nd E w p ds)(B:ds.length≤1048576)(o:bB w)(G:-9223372036854775808≤m∧m≤9223372036854775807)(H:-9223372036854775808≤k∧k≤9223372036854775807):
  Calls Tryz.prog 88 #[.pointer (some ⟨p,0,none⟩), .int .i64 m, .int .i64 k] w (im w (lx ds m k)):=by
 obtain⟨A,c,mb,j,r,s⟩:=z;obtain⟨n,f⟩:∃n,n=ds.length:=⟨_,rfl⟩;have i:Hid (∀w',Calls Tryz.prog 89 #[.int .i64 k, .int .i64 0, .int .i64 n] w' (aY w' (.bool (decide (0≤k∧k≤n))))):=fun w'=>cy k 0 n w';have F:w.cell? ⟨p,0,none⟩=some (.slice A n c):=by rw[f];exact j.aH.cell 0
 by_cases a:0≤k∧k≤(n:Int)
 ·obtain⟨kn,rfl⟩:∃kn:Nat,k=kn:=⟨k.toNat,by omega⟩;have l:Hid (∀w',Calls Tryz.prog 89 #[.int .i64 m, .int .i64 0, .int .i64 kn] w' (aY w' (.bool (decide (0≤m∧m≤kn))))):=fun w'=>cy m 0 kn w';rw[decide_eq_true a]at i;by_cases d:0≤m∧m≤(kn:Int)
  ·obtain⟨b,rfl⟩:∃b:Nat,m=b:=⟨m.toNat,by omega⟩;rw[decide_eq_true d]at l;rcases Nat.eq_zero_or_pos b with rfl|g
   ·have e:lx ds ((0:Nat):Int) kn=([],0):=Bk ds kn (by omega);rw[e];have q:kn≤1048576:=by omega
    clear e j r s o a d f;simp only[Int.natCast_zero]at*;go_enter Tryz.func88,Tryz.ntmps88;go_wp2_with fail;refine(i.out _).mono ?_;rintro e w'⟨rfl,rfl⟩;go_wp2_with fail;refine(l.out _).mono ?_;rintro e w'⟨rfl,rfl⟩;go_wp2;go_ret2;exact im.none aD
   ·have e:lx ds b kn=(ev (ds.take kn) b true,0):=wL ds b kn (by omega) g (by omega);rw[e];have x:Hid (∀w',Fr ag w w'→Calls Tryz.prog 136 #[.pointer (some ⟨p,0,none⟩), .int .i64 b, .int .i64 0, .int .i64 kn, .bool true] w' (kV w' (ev (ds.take kn) b true).length (ev (ds.take kn) b true))):=fun w' u=>by
     have h:=vI kn w' p A ds.length c mb ds (bF ds.length) 0 20 b true (j.ar u) (oQ _) B (o.ar u) g (by omega) (by omega) (by omega) (Nat.dvd_zero _);rw[List.drop_zero]at h;exact h
    generalize ev (ds.take kn) b true=PL at*;have q:kn≤1048576:=by omega
    have C:b≤1048576:=by omega
    have I:((b:Int)==0)=false:=by rw[beq_eq_false_iff_ne];omega
    have D:¬b=0:=by omega
    clear e j r s o a d f g;go_enter Tryz.func88,Tryz.ntmps88;go_wp2_with fail;refine(i.out _).mono ?_;rintro e w'⟨rfl,rfl⟩;go_wp2_with fail;refine(l.out _).mono ?_;rintro e w'⟨rfl,rfl⟩;go_wp2_with fail;refine(x.out _ aD).mono ?_;rintro e w1⟨v,rfl,t⟩;have y:=af t;clear t;go_wp2;go_ret2;exact⟨v,rfl,y.out⟩
  ·rw[decide_eq_false d]at l;have e:lx ds m kn=([],2):=wK ds m kn (.inr d);rw[e];have q:kn≤1048576:=by omega
   clear e j r s o a d f;go_enter Tryz.func88,Tryz.ntmps88;go_wp2_with fail;refine(i.out _).mono ?_;rintro e w'⟨rfl,rfl⟩;go_wp2_with fail;refine(l.out _).mono ?_;rintro e w'⟨rfl,rfl⟩;go_wp2;go_ret2;exact im.none aD
 ·rw[decide_eq_false a]at i;have e:lx ds m k=([],2):=wK ds m k (.inl (by rw[←f];exact a));rw[e];clear e j r s o a f;go_enter Tryz.func88,Tryz.ntmps88;go_wp2_with fail;refine(i.out _).mono ?_;rintro e w'⟨rfl,rfl⟩;go_wp2;go_ret2;exact im.none aD
end Go.Proofs.YtphjagkehiklkaaGreatDoor.Lt
namespace Go.Proofs.YtphjagkehiklkaaGreatDoor
open Go.RowKit Go.Shelf
theorem zl(d:List UInt8)(h:d.length=32)(w:World):(binOp .eql 38 (.agg (d.map aS).toArray) (.agg (d.map aS).toArray)).run Tryz.prog w= .ok (.bool true) w:=by
 have q:=oU w _ Tryz.underlying38 d d h h;rw[decide_eq_true rfl]at q;exact q
end Go.Proofs.YtphjagkehiklkaaGreatDoor
