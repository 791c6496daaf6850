/- Texts. -/
import Derived.Test.YtphjagkehiklkaaGreatDoorEK09
import Derived.Test.YtphjagkehiklkaaGreatDoorEK19
set_option linter.unusedVariables false
set_option linter.unusedSimpArgs false
set_option maxRecDepth 100000
set_option maxHeartbeats 4000000
namespace Go.Proofs.YtphjagkehiklkaaGreatDoor
open Proofs.Tryz Go.RowKit Go.Shelf
theorem qH(a b:List Ent)(s1 s2:Nat)(w:World)(H:dQ w s1 a)(I:dQ w s2 b)(g:lz a)(i:lz b)(E:Bool)(J:E=true↔a=b):
  Calls prog 40 #[.pointer (some ⟨s1,0,none⟩), .pointer (some ⟨s2,0,none⟩)] w (aM w (.bool E)):=by
 have M:Hid (∀w',Fr Nothing w w'->Calls prog 96 #[.pointer (some ⟨s1,0,none⟩), .pointer (some ⟨s2,0,none⟩)] w' (FO w' (cG a b))):=λw' f=>GJ a b s1 s2 w' (H.ao f) (I.ao f) g.len i.len g.short i.short;have c:=af (Hq g.sort i.sort);obtain⟨l,u,r⟩:=H;obtain⟨m,x,s⟩:=I;have p:Hid (Calls prog 94 #[.pointer (some ⟨s1,0,none⟩)] w (bJ w (.int .i64 (a.length:Int)))):=by
  have h:=oZ w s1 l u;rw[<-l.cj,r]at h;exact h
 have q:Hid (Calls prog 94 #[.pointer (some ⟨s2,0,none⟩)] w (bJ w (.int .i64 (b.length:Int)))):=by
  have h:=oZ w s2 m x;rw[<-m.cj,s]at h;exact h
 have n:Hid (Calls prog 95 #[.pointer (some ⟨s1,0,none⟩)] w (bJ w (.int .i64 (cE a:Int)))):=by
  have h:=uQ w s1 l u;rw[l.de,r]at h;exact h
 have o:Hid (Calls prog 95 #[.pointer (some ⟨s2,0,none⟩)] w (bJ w (.int .i64 (cE b:Int)))):=by
  have h:=uQ w s2 m x;rw[m.de,s]at h;exact h
 have A:Hid (a=b->a.length=b.length):=λh=>by rw[h]
 have HB:Hid (a=b->cE a=cE b):=λh=>by rw[h]
 clear u x r s g i;have d:=af J;clear J;generalize a.length=L at*;generalize b.length=nb at*;generalize cE a=C at*;generalize cE b=bb at*;generalize cG a b=D at*;go_enter func40,ntmps40;go_wp2_with fail;refine p.out.mono ?_;rintro e w'⟨rfl,rfl⟩;go_wp2_with fail;refine q.out.mono ?_;rintro e w'⟨rfl,rfl⟩;by_cases F:L=nb
 ·subst F;clear A;go_wp2_with fail;refine n.out.mono ?_;rintro e w'⟨rfl,rfl⟩;go_wp2_with fail;refine o.out.mono ?_;rintro e w'⟨rfl,rfl⟩;by_cases G:C=bb
  ·subst G;clear HB;go_wp2_with fail;refine(M.out _ aA).mono ?_;rintro e w2⟨v,rfl,t⟩;obtain⟨N,k,O,rfl,z,_⟩:=aK t.own;have y:=af t.ao;have B:Hid (k=D.length):=z.out;clear t z;by_cases j:D=[]
   ·have K:k=0:=by rw[B.out,j];rfl
    obtain rfl:E=true:=d.out.2 (c.out.1 j);subst K;go_wp2;go_ret;exact⟨rfl,y.out⟩
   ·have K:k≠0:=λh=>j (List.length_eq_zero_iff.1 (by rw[<-B.out];exact h));obtain rfl:E=false:=Bool.eq_false_iff.2 (λh=>j (c.out.2 (d.out.1 h)));have t9:((k:Int)==0)=false:=jr (by omega);go_wp2;go_ret;exact⟨rfl,y.out⟩
  ·obtain rfl:E=false:=Bool.eq_false_iff.2 (λh=>G (HB.out (d.out.1 h)));have t9:((C:Int)==(bb:Int))=false:=jr (by omega);go_wp2;go_ret;exact aR
 ·obtain rfl:E=false:=Bool.eq_false_iff.2 (λh=>F (A.out (d.out.1 h)));have t9:((L:Int)==(nb:Int))=false:=jr (by omega);go_wp2;go_ret;exact aR
end Go.Proofs.YtphjagkehiklkaaGreatDoor
