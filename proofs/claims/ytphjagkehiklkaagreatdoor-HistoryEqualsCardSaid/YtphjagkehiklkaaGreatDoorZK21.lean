/- Texts. -/
import Derived.Test.YtphjagkehiklkaaGreatDoorZK09
import Derived.Test.YtphjagkehiklkaaGreatDoorZK20
set_option linter.unusedVariables false
set_option linter.unusedSimpArgs false
set_option maxRecDepth 100000
set_option maxHeartbeats 4000000
namespace Go.Proofs.YtphjagkehiklkaaGreatDoor
open Go.RowKit Go.Shelf
theorem qM(a b:List Ent)(s1 s2:Nat)(w:World)(H:eJ w s1 a)(I:eJ w s2 b)(g:kY a)(i:kY b)(E:Bool)(J:E=true↔a=b):
  Calls Tryz.prog 40 #[.pointer (some ⟨s1,0,none⟩), .pointer (some ⟨s2,0,none⟩)] w (aH w (.bool E)):=by
 have M:Hid (∀w',Fr ag w w'→Calls Tryz.prog 96 #[.pointer (some ⟨s1,0,none⟩), .pointer (some ⟨s2,0,none⟩)] w' (Gh w' (ct a b))):=fun w' f=>Hc a b s1 s2 w' (H.ao f) (I.ao f) g.len i.len g.short i.short;have c:=af (Ii g.sort i.sort);obtain⟨l,u,r⟩:=H;obtain⟨m,x,s⟩:=I;have p:Hid (Calls Tryz.prog 94 #[.pointer (some ⟨s1,0,none⟩)] w (bm w (.int .i64 (a.length:Int)))):=by
  have h:=pj w s1 l u;rw[←l.bW,r]at h;exact h
 have q:Hid (Calls Tryz.prog 94 #[.pointer (some ⟨s2,0,none⟩)] w (bm w (.int .i64 (b.length:Int)))):=by
  have h:=pj w s2 m x;rw[←m.bW,s]at h;exact h
 have n:Hid (Calls Tryz.prog 95 #[.pointer (some ⟨s1,0,none⟩)] w (bm w (.int .i64 (cJ a:Int)))):=by
  have h:=uU w s1 l u;rw[l.cY,r]at h;exact h
 have o:Hid (Calls Tryz.prog 95 #[.pointer (some ⟨s2,0,none⟩)] w (bm w (.int .i64 (cJ b:Int)))):=by
  have h:=uU w s2 m x;rw[m.cY,s]at h;exact h
 have A:Hid (a=b→a.length=b.length):=fun h=>by rw[h]
 have HB:Hid (a=b→cJ a=cJ b):=fun h=>by rw[h]
 clear u x r s g i;have d:=af J;clear J;generalize a.length=L at*;generalize b.length=nb at*;generalize cJ a=C at*;generalize cJ b=bb at*;generalize ct a b=D at*;go_enter Tryz.func40,Tryz.ntmps40;go_wp2_with fail;refine p.out.mono ?_;rintro e w'⟨rfl,rfl⟩;go_wp2_with fail;refine q.out.mono ?_;rintro e w'⟨rfl,rfl⟩;by_cases F:L=nb
 ·subst F;clear A;go_wp2_with fail;refine n.out.mono ?_;rintro e w'⟨rfl,rfl⟩;go_wp2_with fail;refine o.out.mono ?_;rintro e w'⟨rfl,rfl⟩;by_cases G:C=bb
  ·subst G;clear HB;go_wp2_with fail;refine(M.out _ az).mono ?_;rintro e w2⟨v,rfl,t⟩;obtain⟨N,k,O,rfl,z,_⟩:=aG t.own;have y:=af t.ao;have B:Hid (k=D.length):=z.out;clear t z;by_cases j:D=[]
   ·have K:k=0:=by rw[B.out,j];rfl
    obtain rfl:E=true:=d.out.2 (c.out.1 j);subst K;go_wp2;go_ret;exact⟨rfl,y.out⟩
   ·have K:k≠0:=fun h=>j (List.length_eq_zero_iff.1 (by rw[←B.out];exact h));obtain rfl:E=false:=Bool.eq_false_iff.2 (fun h=>j (c.out.2 (d.out.1 h)));have t9:((k:Int)==0)=false:=jt (by omega);go_wp2;go_ret;exact⟨rfl,y.out⟩
  ·obtain rfl:E=false:=Bool.eq_false_iff.2 (fun h=>G (HB.out (d.out.1 h)));have t9:((C:Int)==(bb:Int))=false:=jt (by omega);go_wp2;go_ret;exact aM
 ·obtain rfl:E=false:=Bool.eq_false_iff.2 (fun h=>F (A.out (d.out.1 h)));have t9:((L:Int)==(nb:Int))=false:=jt (by omega);go_wp2;go_ret;exact aM
end Go.Proofs.YtphjagkehiklkaaGreatDoor
